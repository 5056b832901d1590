/- EncodeMany: texts of this session's, and what the kit's print laid for this seat, as far as the law's row uses them (EDec4, EDec5, EDec6, EDec7, EDecerr, EDec8, Enc11, Enc13, Enc12, Enc14, LawEncodeMany). -/
import Derived.ProofKit
import Derived.OpenShut
import Derived.ShutString
import Derived.ChangeOld
import Derived.JoinedCond
import Derived.Deep.CondSized
import Derived.Test.YtkopmkinlanhoaaZEncodeMany2
set_option linter.unusedVariables false
set_option linter.unusedSimpArgs false
namespace Go.Proofs.Ytkopmkinlanhoaa.PE
open Go.RowKit Go.Proofs.YtkopmkinlanhoaaW.PrintWords Go.Proofs.YtkopmkinlanhoaaW.PrintLast Go.Proofs.YtkopmkinlanhoaaW.PrintMore
attribute [local go_sem] max2_int min2_int max_two min_two max_three min_three max_four min_four
set_option linter.unusedVariables false
set_option linter.unusedSimpArgs false
def openF (k : Nat) (l : List Int) (i : Int) (hs : List ByteArray) (d : Int) : Option (ByteArray × Int × Int) :=
  if 0 ≤ i ∧ i ≤ l.length then (words_Text.f k l i).bind fun t => if t.2 = true then (if (t.1.size : Int) < 1099511627776 then (if (takeF l i (t.1.size + 1)).2.1 = true then (if d > 16 then some (⟨#[]⟩, 6, (takeF l i (t.1.size + 1)).2.2) else (if d = 1 then some (decide (t.1.toList = ([] : List UInt8))) else if d > 1 then name_Node.f k t.1 else some true).bind fun b => if b = true then (if knownB hs t.1 = true then some (⟨#[]⟩, 9, (takeF l i (t.1.size + 1)).2.2) else if hs.length < 1099511627776 then some (t.1, 0, (takeF l i (t.1.size + 1)).2.2) else none) else some (⟨#[]⟩, 5, (takeF l i (t.1.size + 1)).2.2)) else some (⟨#[]⟩, 4, (takeF l i (t.1.size + 1)).2.2)) else none) else some (⟨#[]⟩, 4, i) else none
structure OpR (w0 W W2 : World) (g m : Nat) (sb st : Value) (q e : Int) (hs : List ByteArray) (s : ByteArray) : Prop where
  st : RdS w0 W2 g sb st q
  kept : Kept W W2 (fun k => k = g ∨ k = m)
  map : e = 0 → MapS W2 m (hs ++ [s])
theorem RdM.opR {w0 W W2 : World} {g m : Nat} {sb st : Value} {q e : Int} {hs : List ByteArray} {s : ByteArray} (h : RdM w0 W W2 g sb st q) (he : e ≠ 0) (n : Nat) : OpR w0 W (W2.drewN n) g m sb st q e hs s := ⟨h.st.drewN n, (h.kept.mono (fun _ hk => .inl hk)).drewN n, fun h0 => absurd h0 he⟩
theorem RdM.opR0 {w0 W W2 : World} {g m : Nat} {sb st : Value} {q e : Int} {hs : List ByteArray} {s : ByteArray} (h : RdM w0 W W2 g sb st q) (he : e ≠ 0) : OpR w0 W W2 g m sb st q e hs s := ⟨h.st, h.kept.mono (fun _ hk => .inl hk), fun h0 => absurd h0 he⟩
theorem RdS.grown {w0 W W2 : World} {g m : Nat} {sb st : Value} {q : Int} (h : RdS w0 W g sb st q) (hg : W.grownBy W2 (some m)) (hm : w0.heap.size ≤ m) (hne : g ≠ m) : RdS w0 W2 g sb st q := ⟨h.bel.grown hg h.bel.size (fun k hk => by injection hk with hk; omega), h.lo, blk_grown h.blk hg (fun e => hne (by injection e))⟩
set_option maxRecDepth 100000 in
set_option maxHeartbeats 2000000 in
theorem reader_open.calls (k : Nat) (ab : Addr) (cb : Nat) (lb : List Int) (st : Value) (at_ : Int) (hs : List ByteArray) (d : Int) (g m : Nat) (w0 W : World) (s1 : ByteArray) (e1 q1 : Int) (hC : Kd.C (Kd.int .u8) w0 (some ab) lb.length lb) (hc : lb.length ≤ cb) (hS : RdS w0 W g (.slice (some ab) lb.length cb) st at_) (hD : MapS W m hs) (hm : w0.heap.size ≤ m) (hne : g ≠ m) (h : openF k lb at_ hs d = some (s1, e1, q1)) :
    Calls Try.prog 70 #[.pointer (some ⟨g, 0, none⟩), .map (some m), .int .i64 d] W fun e w' => e = .returned (.tuple #[.string s1, .int .i64 e1]) ∧ OpR w0 W w' g m (.slice (some ab) lb.length cb) st q1 e1 hs s1 := by
  unfold openF at h
  by_cases hr : 0 ≤ at_ ∧ at_ ≤ lb.length
  case neg => rw [if_neg hr] at h; cases h
  rw [if_pos hr] at h
  obtain ⟨⟨s, ok⟩, ht, h⟩ := Option.bind_eq_some_iff.mp h
  have HT := Aside0.mk (fun n : Nat => words_Text.calls k (some ab) cb lb at_ s ok (W.drewN n) (Kd.C_drewN (Kd.C_below hC hS.bel) n) hc ht)
  have k0 : W.cell? ⟨g, 0, none⟩ = some (.slice (some ab) lb.length cb) := (blk_cell hS.blk 0).trans rfl
  have k2 : W.cell? ⟨g, 2, none⟩ = some (.int .i64 at_) := (blk_cell hS.blk 2).trans rfl
  have HS := Aside0.mk hS
  clear ht
  cases ok with
  | false =>
    simp only at h
    rw [if_neg (by decide)] at h
    obtain ⟨rfl, rfl, rfl⟩ : (⟨#[]⟩ : ByteArray) = s1 ∧ (4 : Int) = e1 ∧ at_ = q1 := by simpa using h
    clear h hC hc hS hD hr
    go_enter Try.func70, Try.ntmps70
    go_wp2
    go_quiet (first | (go_at_call 83; (with_reducible refine (HT.out _).mono ?_); rintro e w' ⟨rfl, ⟨nd, rfl⟩⟩; (try first | exact ⟨rfl, _, World.drewN_drewN _ _ _⟩ | exact ⟨rfl, _, Eq.trans (World.drewN_drewN _ _ _) (congrArg (World.drewN _) (Nat.add_assoc _ _ _))⟩)))
    go_wp2
    go_ret2
    exact ⟨rfl, ((RdM.mk (HS.out.drewN _) ((Kept.refl W (fun k => k = g)).drewN _)).opR0 (by decide))⟩
  | true =>
    rw [if_pos rfl] at h
    by_cases hz : (s.size : Int) < 1099511627776
    case neg => rw [if_neg hz] at h; cases h
    rw [if_pos hz] at h
    have HK := Aside0.mk (fun W2 hS2 => reader_take.calls ab cb lb st at_ (s.size + 1) g w0 W2 hC hc hS2 hr.1 hr.2 (by omega) (by omega))
    have HD := Aside0.mk (fun W2 (hk : Kept W W2 (fun k => k = g)) => hD.kept hk (fun e => hne e.symm))
    have HZ : Aside0 (s.size ≤ maxLen) := ⟨by unfold maxLen; omega⟩
    have hw1 : (s.size : Int) + 1 ≤ 1099511627776 := by omega
    have hw2 : (0 : Int) ≤ (s.size : Int) := Int.natCast_nonneg _
    obtain ⟨⟨y, ok2, q⟩, hy⟩ : ∃ y, y = takeF lb at_ (s.size + 1) := ⟨_, rfl⟩
    rw [← hy] at h HK
    clear hy hC hc hS hD hr hz
    simp only at h HK
    cases ok2 with
    | false =>
      rw [if_neg (by decide)] at h
      obtain ⟨rfl, rfl, rfl⟩ : (⟨#[]⟩ : ByteArray) = s1 ∧ (4 : Int) = e1 ∧ q = q1 := by simpa using h
      clear h
      go_enter Try.func70, Try.ntmps70
      go_wp2
      go_quiet (first | (go_at_call 83; (with_reducible refine (HT.out _).mono ?_); rintro e w' ⟨rfl, ⟨nd, rfl⟩⟩; (try first | exact ⟨rfl, _, World.drewN_drewN _ _ _⟩ | exact ⟨rfl, _, Eq.trans (World.drewN_drewN _ _ _) (congrArg (World.drewN _) (Nat.add_assoc _ _ _))⟩)))
      go_wp2_with (first | (go_at_call 84; refine (HK.out _ (HS.out.drewN _)).mono ?_; rintro e w' ⟨A2, c2, rfl, hl, hC2, hm⟩; have HM := Aside0.mk (RdM.mk hm.st (((Kept.refl W (fun k => k = g)).drewN _).then_ hm.kept (fun _ h => .inl h))); (try have hlk0 := HLK.out _ HM.out.kept); (try have hlkn := fun n_ : Nat => HLK.out _ (HM.out.kept.drewN n_)); clear hm hl hC2) | (go_at_call 85; refine (HN.out _).mono ?_; rintro e w' ⟨rfl, ⟨nd2, rfl⟩⟩) | (at_mapUpdate; refine wpList_mapS _ rfl _ _ _ rfl m hs rfl (HD.out _ (by repeat (first | exact HM.out.kept | refine Kept.drewN ?_ _))) HL.out s rfl HZ.out rfl ?_; intro w3 hm3 hg3; have HM3 := Aside0.mk hm3; have HG3 := Aside0.mk hg3; clear hm3 hg3))
      go_ret2
      exact ⟨rfl, HM.out.opR0 (by decide)⟩
    | true =>
      rw [if_pos rfl] at h
      by_cases c16 : d > 16
      · rw [if_pos c16] at h
        obtain ⟨rfl, rfl, rfl⟩ : (⟨#[]⟩ : ByteArray) = s1 ∧ (6 : Int) = e1 ∧ q = q1 := by simpa using h
        have c16b : decide (16 < d) = true := decide_eq_true c16
        clear h c16
        go_enter Try.func70, Try.ntmps70
        go_wp2
        go_quiet (first | (go_at_call 83; (with_reducible refine (HT.out _).mono ?_); rintro e w' ⟨rfl, ⟨nd, rfl⟩⟩; (try first | exact ⟨rfl, _, World.drewN_drewN _ _ _⟩ | exact ⟨rfl, _, Eq.trans (World.drewN_drewN _ _ _) (congrArg (World.drewN _) (Nat.add_assoc _ _ _))⟩)))
        go_wp2_with (first | (go_at_call 84; refine (HK.out _ (HS.out.drewN _)).mono ?_; rintro e w' ⟨A2, c2, rfl, hl, hC2, hm⟩; have HM := Aside0.mk (RdM.mk hm.st (((Kept.refl W (fun k => k = g)).drewN _).then_ hm.kept (fun _ h => .inl h))); (try have hlk0 := HLK.out _ HM.out.kept); (try have hlkn := fun n_ : Nat => HLK.out _ (HM.out.kept.drewN n_)); clear hm hl hC2) | (go_at_call 85; refine (HN.out _).mono ?_; rintro e w' ⟨rfl, ⟨nd2, rfl⟩⟩) | (at_mapUpdate; refine wpList_mapS _ rfl _ _ _ rfl m hs rfl (HD.out _ (by repeat (first | exact HM.out.kept | refine Kept.drewN ?_ _))) HL.out s rfl HZ.out rfl ?_; intro w3 hm3 hg3; have HM3 := Aside0.mk hm3; have HG3 := Aside0.mk hg3; clear hm3 hg3))
        go_ret2
        exact ⟨rfl, HM.out.opR0 (by decide)⟩
      · rw [if_neg c16] at h
        have c16b : decide (16 < d) = false := decide_eq_false c16
        clear c16
        obtain ⟨b, hb, h⟩ := Option.bind_eq_some_iff.mp h
        by_cases d1 : d = 1
        · subst d1
          rw [if_pos rfl] at hb
          obtain rfl := Option.some.inj hb
          clear hb
          by_cases hz : s.toList = ([] : List UInt8)
          · have hz0 : (s.toList == ([] : List UInt8)) = true := beq_iff_eq.mpr hz
            have hz1 : (s.toList != ([] : List UInt8)) = false := bne_eq_false_iff_eq.mpr hz
            rw [if_pos (decide_eq_true hz)] at h
            clear hz
            cases hkb : knownB hs s with
            | true =>
              rw [if_pos hkb] at h
              obtain ⟨rfl, rfl, rfl⟩ : (⟨#[]⟩ : ByteArray) = s1 ∧ (9 : Int) = e1 ∧ q = q1 := by simpa using h
              clear h
              have HLK := Aside0.mk (fun W2 (hk : Kept W W2 (fun k => k = g)) => (HD.out W2 hk).look s HZ.out)
              rw [hkb] at HLK
              go_enter Try.func70, Try.ntmps70
              go_wp2
              go_quiet (first | (go_at_call 83; (with_reducible refine (HT.out _).mono ?_); rintro e w' ⟨rfl, ⟨nd, rfl⟩⟩; (try first | exact ⟨rfl, _, World.drewN_drewN _ _ _⟩ | exact ⟨rfl, _, Eq.trans (World.drewN_drewN _ _ _) (congrArg (World.drewN _) (Nat.add_assoc _ _ _))⟩)))
              go_wp2_with (first | (go_at_call 84; refine (HK.out _ (HS.out.drewN _)).mono ?_; rintro e w' ⟨A2, c2, rfl, hl, hC2, hm⟩; have HM := Aside0.mk (RdM.mk hm.st (((Kept.refl W (fun k => k = g)).drewN _).then_ hm.kept (fun _ h => .inl h))); (try have hlk0 := HLK.out _ HM.out.kept); (try have hlkn := fun n_ : Nat => HLK.out _ (HM.out.kept.drewN n_)); clear hm hl hC2) | (go_at_call 85; refine (HN.out _).mono ?_; rintro e w' ⟨rfl, ⟨nd2, rfl⟩⟩) | (at_mapUpdate; refine wpList_mapS _ rfl _ _ _ rfl m hs rfl (HD.out _ (by repeat (first | exact HM.out.kept | refine Kept.drewN ?_ _))) HL.out s rfl HZ.out rfl ?_; intro w3 hm3 hg3; have HM3 := Aside0.mk hm3; have HG3 := Aside0.mk hg3; clear hm3 hg3))
              go_ret2
              exact ⟨rfl, by first | exact HM.out.opR (by decide) _ | exact HM.out.opR0 (by decide)⟩
            | false =>
              rw [if_neg (by rw [hkb]; decide)] at h
              by_cases hl : hs.length < 1099511627776
              case neg => rw [if_neg hl] at h; cases h
              rw [if_pos hl] at h
              obtain ⟨rfl, rfl, rfl⟩ : s = s1 ∧ (0 : Int) = e1 ∧ q = q1 := by simpa using h
              have HL : Aside0 (hs.length < maxLen) := ⟨by unfold maxLen; omega⟩
              clear h hl
              have HLK := Aside0.mk (fun W2 (hk : Kept W W2 (fun k => k = g)) => (HD.out W2 hk).look s HZ.out)
              rw [hkb] at HLK
              go_enter Try.func70, Try.ntmps70
              go_wp2
              go_quiet (first | (go_at_call 83; (with_reducible refine (HT.out _).mono ?_); rintro e w' ⟨rfl, ⟨nd, rfl⟩⟩; (try first | exact ⟨rfl, _, World.drewN_drewN _ _ _⟩ | exact ⟨rfl, _, Eq.trans (World.drewN_drewN _ _ _) (congrArg (World.drewN _) (Nat.add_assoc _ _ _))⟩)))
              go_wp2_with (first | (go_at_call 84; refine (HK.out _ (HS.out.drewN _)).mono ?_; rintro e w' ⟨A2, c2, rfl, hl, hC2, hm⟩; have HM := Aside0.mk (RdM.mk hm.st (((Kept.refl W (fun k => k = g)).drewN _).then_ hm.kept (fun _ h => .inl h))); (try have hlk0 := HLK.out _ HM.out.kept); (try have hlkn := fun n_ : Nat => HLK.out _ (HM.out.kept.drewN n_)); clear hm hl hC2) | (go_at_call 85; refine (HN.out _).mono ?_; rintro e w' ⟨rfl, ⟨nd2, rfl⟩⟩) | (at_mapUpdate; refine wpList_mapS _ rfl _ _ _ rfl m hs rfl (HD.out _ (by repeat (first | exact HM.out.kept | refine Kept.drewN ?_ _))) HL.out s rfl HZ.out rfl ?_; intro w3 hm3 hg3; have HM3 := Aside0.mk hm3; have HG3 := Aside0.mk hg3; clear hm3 hg3))
              go_ret2
              exact ⟨rfl, ⟨by have h2 := HM.out.st; repeat (first | exact RdS.grown (by first | exact h2 | exact h2.drewN _) HG3.out hm hne), Kept.of_grown HG3.out (by first | exact HM.out.kept.mono (fun _ hk => .inl hk) | exact (HM.out.kept.mono (fun _ hk => .inl hk)).drewN _) (fun k hk => .inl (.inr (by injection hk with hk; exact hk.symm))), fun _ => HM3.out⟩⟩
          · have hz0 : (s.toList == ([] : List UInt8)) = false := beq_eq_false_iff_ne.mpr hz
            have hz1 : (s.toList != ([] : List UInt8)) = true := bne_iff_ne.mpr hz
            rw [if_neg (fun h0 => hz (of_decide_eq_true h0))] at h
            clear hz
            obtain ⟨rfl, rfl, rfl⟩ : (⟨#[]⟩ : ByteArray) = s1 ∧ (5 : Int) = e1 ∧ q = q1 := by simpa using h
            clear h
            go_enter Try.func70, Try.ntmps70
            go_wp2
            go_quiet (first | (go_at_call 83; (with_reducible refine (HT.out _).mono ?_); rintro e w' ⟨rfl, ⟨nd, rfl⟩⟩; (try first | exact ⟨rfl, _, World.drewN_drewN _ _ _⟩ | exact ⟨rfl, _, Eq.trans (World.drewN_drewN _ _ _) (congrArg (World.drewN _) (Nat.add_assoc _ _ _))⟩)))
            go_wp2_with (first | (go_at_call 84; refine (HK.out _ (HS.out.drewN _)).mono ?_; rintro e w' ⟨A2, c2, rfl, hl, hC2, hm⟩; have HM := Aside0.mk (RdM.mk hm.st (((Kept.refl W (fun k => k = g)).drewN _).then_ hm.kept (fun _ h => .inl h))); (try have hlk0 := HLK.out _ HM.out.kept); (try have hlkn := fun n_ : Nat => HLK.out _ (HM.out.kept.drewN n_)); clear hm hl hC2) | (go_at_call 85; refine (HN.out _).mono ?_; rintro e w' ⟨rfl, ⟨nd2, rfl⟩⟩) | (at_mapUpdate; refine wpList_mapS _ rfl _ _ _ rfl m hs rfl (HD.out _ (by repeat (first | exact HM.out.kept | refine Kept.drewN ?_ _))) HL.out s rfl HZ.out rfl ?_; intro w3 hm3 hg3; have HM3 := Aside0.mk hm3; have HG3 := Aside0.mk hg3; clear hm3 hg3))
            go_ret2
            exact ⟨rfl, HM.out.opR0 (by decide)⟩
        · rw [if_neg d1] at hb
          have d1b : (d == 1) = false := beq_eq_false_iff_ne.mpr d1
          by_cases dg : d > 1
          · rw [if_pos dg] at hb
            have dgb : decide (1 < d) = true := decide_eq_true dg
            have HN := Aside0.mk (fun W2 => name_Node.calls k s b W2 hb)
            clear hb d1 dg
            cases b with
            | true =>
              rw [if_pos rfl] at h
              cases hkb : knownB hs s with
              | true =>
                rw [if_pos hkb] at h
                obtain ⟨rfl, rfl, rfl⟩ : (⟨#[]⟩ : ByteArray) = s1 ∧ (9 : Int) = e1 ∧ q = q1 := by simpa using h
                clear h
                have HLK := Aside0.mk (fun W2 (hk : Kept W W2 (fun k => k = g)) => (HD.out W2 hk).look s HZ.out)
                rw [hkb] at HLK
                go_enter Try.func70, Try.ntmps70
                go_wp2
                go_quiet (first | (go_at_call 83; (with_reducible refine (HT.out _).mono ?_); rintro e w' ⟨rfl, ⟨nd, rfl⟩⟩; (try first | exact ⟨rfl, _, World.drewN_drewN _ _ _⟩ | exact ⟨rfl, _, Eq.trans (World.drewN_drewN _ _ _) (congrArg (World.drewN _) (Nat.add_assoc _ _ _))⟩)))
                go_wp2_with (first | (go_at_call 84; refine (HK.out _ (HS.out.drewN _)).mono ?_; rintro e w' ⟨A2, c2, rfl, hl, hC2, hm⟩; have HM := Aside0.mk (RdM.mk hm.st (((Kept.refl W (fun k => k = g)).drewN _).then_ hm.kept (fun _ h => .inl h))); (try have hlk0 := HLK.out _ HM.out.kept); (try have hlkn := fun n_ : Nat => HLK.out _ (HM.out.kept.drewN n_)); clear hm hl hC2) | (go_at_call 85; refine (HN.out _).mono ?_; rintro e w' ⟨rfl, ⟨nd2, rfl⟩⟩) | (at_mapUpdate; refine wpList_mapS _ rfl _ _ _ rfl m hs rfl (HD.out _ (by repeat (first | exact HM.out.kept | refine Kept.drewN ?_ _))) HL.out s rfl HZ.out rfl ?_; intro w3 hm3 hg3; have HM3 := Aside0.mk hm3; have HG3 := Aside0.mk hg3; clear hm3 hg3))
                go_ret2
                exact ⟨rfl, by first | exact HM.out.opR (by decide) _ | exact HM.out.opR0 (by decide)⟩
              | false =>
                rw [if_neg (by rw [hkb]; decide)] at h
                by_cases hl : hs.length < 1099511627776
                case neg => rw [if_neg hl] at h; cases h
                rw [if_pos hl] at h
                obtain ⟨rfl, rfl, rfl⟩ : s = s1 ∧ (0 : Int) = e1 ∧ q = q1 := by simpa using h
                have HL : Aside0 (hs.length < maxLen) := ⟨by unfold maxLen; omega⟩
                clear h hl
                have HLK := Aside0.mk (fun W2 (hk : Kept W W2 (fun k => k = g)) => (HD.out W2 hk).look s HZ.out)
                rw [hkb] at HLK
                go_enter Try.func70, Try.ntmps70
                go_wp2
                go_quiet (first | (go_at_call 83; (with_reducible refine (HT.out _).mono ?_); rintro e w' ⟨rfl, ⟨nd, rfl⟩⟩; (try first | exact ⟨rfl, _, World.drewN_drewN _ _ _⟩ | exact ⟨rfl, _, Eq.trans (World.drewN_drewN _ _ _) (congrArg (World.drewN _) (Nat.add_assoc _ _ _))⟩)))
                go_wp2_with (first | (go_at_call 84; refine (HK.out _ (HS.out.drewN _)).mono ?_; rintro e w' ⟨A2, c2, rfl, hl, hC2, hm⟩; have HM := Aside0.mk (RdM.mk hm.st (((Kept.refl W (fun k => k = g)).drewN _).then_ hm.kept (fun _ h => .inl h))); (try have hlk0 := HLK.out _ HM.out.kept); (try have hlkn := fun n_ : Nat => HLK.out _ (HM.out.kept.drewN n_)); clear hm hl hC2) | (go_at_call 85; refine (HN.out _).mono ?_; rintro e w' ⟨rfl, ⟨nd2, rfl⟩⟩) | (at_mapUpdate; refine wpList_mapS _ rfl _ _ _ rfl m hs rfl (HD.out _ (by repeat (first | exact HM.out.kept | refine Kept.drewN ?_ _))) HL.out s rfl HZ.out rfl ?_; intro w3 hm3 hg3; have HM3 := Aside0.mk hm3; have HG3 := Aside0.mk hg3; clear hm3 hg3))
                go_ret2
                exact ⟨rfl, ⟨by have h2 := HM.out.st; repeat (first | exact RdS.grown (by first | exact h2 | exact h2.drewN _) HG3.out hm hne), Kept.of_grown HG3.out (by first | exact HM.out.kept.mono (fun _ hk => .inl hk) | exact (HM.out.kept.mono (fun _ hk => .inl hk)).drewN _) (fun k hk => .inl (.inr (by injection hk with hk; exact hk.symm))), fun _ => HM3.out⟩⟩
            | false =>
              rw [if_neg (by decide)] at h
              obtain ⟨rfl, rfl, rfl⟩ : (⟨#[]⟩ : ByteArray) = s1 ∧ (5 : Int) = e1 ∧ q = q1 := by simpa using h
              clear h
              go_enter Try.func70, Try.ntmps70
              go_wp2
              go_quiet (first | (go_at_call 83; (with_reducible refine (HT.out _).mono ?_); rintro e w' ⟨rfl, ⟨nd, rfl⟩⟩; (try first | exact ⟨rfl, _, World.drewN_drewN _ _ _⟩ | exact ⟨rfl, _, Eq.trans (World.drewN_drewN _ _ _) (congrArg (World.drewN _) (Nat.add_assoc _ _ _))⟩)))
              go_wp2_with (first | (go_at_call 84; refine (HK.out _ (HS.out.drewN _)).mono ?_; rintro e w' ⟨A2, c2, rfl, hl, hC2, hm⟩; have HM := Aside0.mk (RdM.mk hm.st (((Kept.refl W (fun k => k = g)).drewN _).then_ hm.kept (fun _ h => .inl h))); (try have hlk0 := HLK.out _ HM.out.kept); (try have hlkn := fun n_ : Nat => HLK.out _ (HM.out.kept.drewN n_)); clear hm hl hC2) | (go_at_call 85; refine (HN.out _).mono ?_; rintro e w' ⟨rfl, ⟨nd2, rfl⟩⟩) | (at_mapUpdate; refine wpList_mapS _ rfl _ _ _ rfl m hs rfl (HD.out _ (by repeat (first | exact HM.out.kept | refine Kept.drewN ?_ _))) HL.out s rfl HZ.out rfl ?_; intro w3 hm3 hg3; have HM3 := Aside0.mk hm3; have HG3 := Aside0.mk hg3; clear hm3 hg3))
              go_ret2
              exact ⟨rfl, HM.out.opR (by decide) _⟩
          · rw [if_neg dg] at hb
            have dgb : decide (1 < d) = false := decide_eq_false dg
            obtain rfl := Option.some.inj hb
            rw [if_pos rfl] at h
            clear hb d1 dg
            cases hkb : knownB hs s with
            | true =>
              rw [if_pos hkb] at h
              obtain ⟨rfl, rfl, rfl⟩ : (⟨#[]⟩ : ByteArray) = s1 ∧ (9 : Int) = e1 ∧ q = q1 := by simpa using h
              clear h
              have HLK := Aside0.mk (fun W2 (hk : Kept W W2 (fun k => k = g)) => (HD.out W2 hk).look s HZ.out)
              rw [hkb] at HLK
              go_enter Try.func70, Try.ntmps70
              go_wp2
              go_quiet (first | (go_at_call 83; (with_reducible refine (HT.out _).mono ?_); rintro e w' ⟨rfl, ⟨nd, rfl⟩⟩; (try first | exact ⟨rfl, _, World.drewN_drewN _ _ _⟩ | exact ⟨rfl, _, Eq.trans (World.drewN_drewN _ _ _) (congrArg (World.drewN _) (Nat.add_assoc _ _ _))⟩)))
              go_wp2_with (first | (go_at_call 84; refine (HK.out _ (HS.out.drewN _)).mono ?_; rintro e w' ⟨A2, c2, rfl, hl, hC2, hm⟩; have HM := Aside0.mk (RdM.mk hm.st (((Kept.refl W (fun k => k = g)).drewN _).then_ hm.kept (fun _ h => .inl h))); (try have hlk0 := HLK.out _ HM.out.kept); (try have hlkn := fun n_ : Nat => HLK.out _ (HM.out.kept.drewN n_)); clear hm hl hC2) | (go_at_call 85; refine (HN.out _).mono ?_; rintro e w' ⟨rfl, ⟨nd2, rfl⟩⟩) | (at_mapUpdate; refine wpList_mapS _ rfl _ _ _ rfl m hs rfl (HD.out _ (by repeat (first | exact HM.out.kept | refine Kept.drewN ?_ _))) HL.out s rfl HZ.out rfl ?_; intro w3 hm3 hg3; have HM3 := Aside0.mk hm3; have HG3 := Aside0.mk hg3; clear hm3 hg3))
              go_ret2
              exact ⟨rfl, by first | exact HM.out.opR (by decide) _ | exact HM.out.opR0 (by decide)⟩
            | false =>
              rw [if_neg (by rw [hkb]; decide)] at h
              by_cases hl : hs.length < 1099511627776
              case neg => rw [if_neg hl] at h; cases h
              rw [if_pos hl] at h
              obtain ⟨rfl, rfl, rfl⟩ : s = s1 ∧ (0 : Int) = e1 ∧ q = q1 := by simpa using h
              have HL : Aside0 (hs.length < maxLen) := ⟨by unfold maxLen; omega⟩
              clear h hl
              have HLK := Aside0.mk (fun W2 (hk : Kept W W2 (fun k => k = g)) => (HD.out W2 hk).look s HZ.out)
              rw [hkb] at HLK
              go_enter Try.func70, Try.ntmps70
              go_wp2
              go_quiet (first | (go_at_call 83; (with_reducible refine (HT.out _).mono ?_); rintro e w' ⟨rfl, ⟨nd, rfl⟩⟩; (try first | exact ⟨rfl, _, World.drewN_drewN _ _ _⟩ | exact ⟨rfl, _, Eq.trans (World.drewN_drewN _ _ _) (congrArg (World.drewN _) (Nat.add_assoc _ _ _))⟩)))
              go_wp2_with (first | (go_at_call 84; refine (HK.out _ (HS.out.drewN _)).mono ?_; rintro e w' ⟨A2, c2, rfl, hl, hC2, hm⟩; have HM := Aside0.mk (RdM.mk hm.st (((Kept.refl W (fun k => k = g)).drewN _).then_ hm.kept (fun _ h => .inl h))); (try have hlk0 := HLK.out _ HM.out.kept); (try have hlkn := fun n_ : Nat => HLK.out _ (HM.out.kept.drewN n_)); clear hm hl hC2) | (go_at_call 85; refine (HN.out _).mono ?_; rintro e w' ⟨rfl, ⟨nd2, rfl⟩⟩) | (at_mapUpdate; refine wpList_mapS _ rfl _ _ _ rfl m hs rfl (HD.out _ (by repeat (first | exact HM.out.kept | refine Kept.drewN ?_ _))) HL.out s rfl HZ.out rfl ?_; intro w3 hm3 hg3; have HM3 := Aside0.mk hm3; have HG3 := Aside0.mk hg3; clear hm3 hg3))
              go_ret2
              exact ⟨rfl, ⟨by have h2 := HM.out.st; repeat (first | exact RdS.grown (by first | exact h2 | exact h2.drewN _) HG3.out hm hne), Kept.of_grown HG3.out (by first | exact HM.out.kept.mono (fun _ hk => .inl hk) | exact (HM.out.kept.mono (fun _ hk => .inl hk)).drewN _) (fun k hk => .inl (.inr (by injection hk with hk; exact hk.symm))), fun _ => HM3.out⟩⟩
end Go.Proofs.Ytkopmkinlanhoaa.PE

namespace Go.Proofs.Ytkopmkinlanhoaa.PE
open Go.RowKit Go.Proofs.YtkopmkinlanhoaaW.PrintWords Go.Proofs.YtkopmkinlanhoaaW.PrintLast Go.Proofs.YtkopmkinlanhoaaW.PrintMore
attribute [local go_sem] max2_int min2_int max_two min_two max_three min_three max_four min_four
set_option linter.unusedVariables false
set_option linter.unusedSimpArgs false
def propF (k : Nat) (l lt : List Int) (i : Int) (hs : List ByteArray) : Option (S63 × Int × Int) :=
  if cellOk l i = true then (if cellOk l (i + 4) = true then
    (words_Text.f k lt (cellAt l (i + 4))).bind fun t =>
      if (takeF l (i + 4 + 4) (cellAt l i)).2.1 = true then (if t.2 = true then (if (t.1.size : Int) < 1099511627776 then (name_Prop.f k t.1).bind fun b => if b = true then (if knownB hs t.1 = true then some (z63, 9, (takeF l (i + 4 + 4) (cellAt l i)).2.2) else if hs.length < 1099511627776 then (bytes_Clone.f (takeF l (i + 4 + 4) (cellAt l i)).1).bind fun v => some (⟨t.1, v⟩, 0, (takeF l (i + 4 + 4) (cellAt l i)).2.2) else none) else some (z63, 5, (takeF l (i + 4 + 4) (cellAt l i)).2.2) else none) else some (z63, 4, (takeF l (i + 4 + 4) (cellAt l i)).2.2)) else some (z63, 4, (takeF l (i + 4 + 4) (cellAt l i)).2.2)
    else some (z63, 4, i + 4)) else some (z63, 4, nextAt l i)
theorem RdM.outer {w0 W W2 : World} {g : Nat} {sb st : Value} {q : Int} (h : RdM w0 W W2 g sb st q) (hg : g < W.heap.size) (h0 : w0.heap.size ≤ W.heap.size) (j : Nat) (u : Value) : RdM w0 W (W2.setCell ⟨W.heap.size, j, none⟩ u) g sb st q :=
  ⟨⟨h.st.bel.setCell h0 _, h.st.lo, blk_far h.st.blk (Nat.ne_of_lt hg) _⟩, h.kept.setCell (p := ⟨W.heap.size, j, none⟩) (.inr (Nat.le_refl _)) _⟩
theorem RdM.drewN {w0 W W2 : World} {g : Nat} {sb st : Value} {q : Int} (h : RdM w0 W W2 g sb st q) (n : Nat) : RdM w0 W (W2.drewN n) g sb st q := ⟨h.st.drewN n, h.kept.drewN n⟩
theorem OpR.outer {w0 W W2 : World} {g m : Nat} {sb st : Value} {q e : Int} {hs : List ByteArray} {s : ByteArray} (h : OpR w0 W W2 g m sb st q e hs s) (hg : g < W.heap.size) (hm : m < W.heap.size) (h0 : w0.heap.size ≤ W.heap.size) (j : Nat) (u : Value) : OpR w0 W (W2.setCell ⟨W.heap.size, j, none⟩ u) g m sb st q e hs s :=
  ⟨⟨h.st.bel.setCell h0 _, h.st.lo, blk_far h.st.blk (Nat.ne_of_lt hg) _⟩, h.kept.setCell (p := ⟨W.heap.size, j, none⟩) (.inr (Nat.le_refl _)) _, fun he => (h.map he).same (Below.heap_setCell W2 ⟨W.heap.size, j, none⟩ u m (Nat.ne_of_lt hm))⟩
theorem OpR.below {w0 W W2 W3 : World} {g m : Nat} {sb st : Value} {q e : Int} {hs : List ByteArray} {s : ByteArray} (h : OpR w0 W W2 g m sb st q e hs s) (hb : Below W2.heap.size W2 W3) : OpR w0 W W3 g m sb st q e hs s := ⟨h.st.below hb, h.kept.below hb, fun he => (h.map he).below hb⟩
theorem OpR.put {w0 W W2 W3 : World} {g m : Nat} {sb st : Value} {q : Int} {hs : List ByteArray} {s : ByteArray} (h : RdM w0 W W2 g sb st q) (hg : W2.grownBy W3 (some m)) (hM : MapS W3 m (hs ++ [s])) (hm : w0.heap.size ≤ m) (hne : g ≠ m) : OpR w0 W W3 g m sb st q 0 hs s :=
  ⟨h.st.grown hg hm hne, Kept.of_grown hg (h.kept.mono (fun _ hk => .inl hk)) (fun k hk => .inl (.inr (by injection hk with hk; exact hk.symm))), fun _ => hM⟩
theorem R_outer {w6 W2 : World} {B : Nat} {v : Value} {l : List Int} (h : Kd.R (Kd.int .u8) 5 W2 w6.heap.size (fun _ => True) v l) (hB : B < w6.heap.size) (j : Nat) (u : Value) : Kd.R (Kd.int .u8) 5 (W2.setCell ⟨B, j, none⟩ u) w6.heap.size (fun _ => True) v l :=
  Kd.R_mono (Kd.R_far (p := ⟨B, j, none⟩) (Kd.R_bound h) (fun k hk => by have := hk.2.1; simp only; omega) u) (fun _ _ => trivial)
set_option maxRecDepth 100000 in
set_option maxHeartbeats 4000000 in
theorem reader_prop.calls (k : Nat) (ab : Addr) (cb : Nat) (lb : List Int) (At : Option Addr) (ct : Nat) (lt : List Int) (at_ : Int) (hs : List ByteArray) (g m : Nat) (w0 W : World) (p1 : S63) (e1 q1 : Int) (hC : Kd.C (Kd.int .u8) w0 (some ab) lb.length lb) (hc : lb.length ≤ cb) (hCt : Kd.C (Kd.int .u8) w0 At lt.length lt) (hct : lt.length ≤ ct) (hS : RdS w0 W g (.slice (some ab) lb.length cb) (.slice At lt.length ct) at_) (hD : MapS W m hs) (hm : w0.heap.size ≤ m) (hne : g ≠ m) (h : propF k lb lt at_ hs = some (p1, e1, q1)) :
    Calls Try.prog 71 #[.pointer (some ⟨g, 0, none⟩), .map (some m)] W fun e w' => ∃ v : Value, e = .returned (.tuple #[.agg #[.string p1.f0, v], .int .i64 e1]) ∧ OpR w0 W w' g m (.slice (some ab) lb.length cb) (.slice At lt.length ct) q1 e1 hs p1.f0 ∧ Kd.R (Kd.int .u8) 5 w' W.heap.size (fun _ => True) v p1.f1 := by
  unfold propF at h
  have HS := Aside0.mk hS
  have HG := Aside0.mk (blk_lt hS.blk)
  have hS1 := hS.below (below_alloc (Below.refl W.heap.size W) (.cells #[.string ⟨#[]⟩, .slice none 0 0] 63))
  have HM := Aside0.mk (RdM.mk hS1 ((Kept.refl W (fun k => k = g)).alloc (.cells #[.string ⟨#[]⟩, .slice none 0 0] 63)))
  have BK := Aside0.mk (blk_new W (.cells #[.string ⟨#[]⟩, .slice none 0 0] 63 (0, 0)))
  have HCEL := Aside0.mk (fun i W2 hS2 => reader_cell.calls (some ab) cb lb (.slice At lt.length ct) i g w0 W2 hC hc hS2)
  have HCB := Aside0.mk hC
  have HCT := Aside0.mk hCt
  have HCC := Aside0.mk hc
  have HCCT := Aside0.mk hct
  have HD := Aside0.mk (fun W2 (hk : Kept W W2 (fun k => k = g)) => hD.kept hk (fun e => hne e.symm))
  have HLTM := Aside0.mk hD.lt
  have N1 : Aside0 (nextAt lb at_ = if cellOk lb at_ = true then at_ + 4 else at_) := ⟨rfl⟩
  have N2 : Aside0 (nextAt lb (at_ + 4) = if cellOk lb (at_ + 4) = true then at_ + 4 + 4 else at_ + 4) := ⟨rfl⟩
  have R1 := Aside0.mk (cellOk_range lb at_)
  have R2 := Aside0.mk (cellOk_range lb (at_ + 4))
  have V1 := cellAt_range lb at_
  have V2 := cellAt_range lb (at_ + 4)
  clear hC hc hCt hct hS hD hS1
  cases ha : cellOk lb at_ with
  | false =>
    rw [if_neg (by rw [ha]; decide)] at h
    have N1 : Aside0 (nextAt lb at_ = at_) := ⟨N1.out.trans (if_neg (by rw [ha]; decide))⟩
    rw [N1.out] at h
    obtain ⟨rfl, rfl, rfl⟩ : z63 = p1 ∧ (4 : Int) = e1 ∧ at_ = q1 := by simpa using h
    have HC1 := HCEL.out at_
    rw [ha, N1.out] at HC1
    have HC1 := Aside0.mk HC1
    clear h HCEL N1 N2 R1 R2
    go_enter Try.func71, Try.ntmps71
    go_wp2_with (go_at_call 69; refine (HC1.out _ HM.out.st).mono ?_; rintro e w1 ⟨rfl, hm⟩; have BK := Aside0.mk (blk_kept BK.out hm.kept (fun e => Nat.ne_of_gt HG.out e)); have HM := Aside0.mk (HM.out.then_ hm); clear hm; have z0 : w1.cell? ⟨W.heap.size, 0, none⟩ = some (.string ⟨#[]⟩) := (blk_cell BK.out 0).trans rfl; have z1 : w1.cell? ⟨W.heap.size, 1, none⟩ = some (.slice none 0 0) := (blk_cell BK.out 1).trans rfl; have y0 : w1.frozen? ⟨W.heap.size, 0, none⟩ = false := blk_frozen BK.out 0; have y1 : w1.frozen? ⟨W.heap.size, 1, none⟩ = false := blk_frozen BK.out 1; have kx1 : w1.cell? ⟨g, 1, none⟩ = some (.slice At lt.length ct) := (blk_cell HM.out.st.blk 1).trans rfl)
    refine bodyPost_ret (results_ct rfl _ _ W.heap.size 63 #[.string ⟨#[]⟩, .slice none 0 0] (0, 0) _ rfl (by refine blk_put (cs := #[.string ⟨#[]⟩, .slice none 0 0]) ?_ 1 _ rfl; refine blk_put (cs := #[.string ⟨#[]⟩, .slice none 0 0]) ?_ 0 _ rfl; repeat (first | exact BK.out | refine blk_drewN ?_ _)) Try.underlying63 rfl (by kernel_rfl)) rfl ⟨.slice none 0 0, rfl, ?_, Kd.R_nil _ _ _ _ _⟩
    exact RdM.opR0 (RdM.outer (RdM.outer (by repeat (first | exact HM.out | refine RdM.drewN ?_ _)) HG.out HS.out.bel.size 0 _) HG.out HS.out.bel.size 1 _) (by decide)
  | true =>
    rw [if_pos ha] at h
    have N1 : Aside0 (nextAt lb at_ = at_ + 4) := ⟨N1.out.trans (if_pos ha)⟩
    have R1 := Aside0.mk (R1.out ha)
    have HC1 := HCEL.out at_
    rw [ha, N1.out] at HC1
    have HC1 := Aside0.mk HC1
    cases hb : cellOk lb (at_ + 4) with
    | false =>
      rw [if_neg (by rw [hb]; decide)] at h
      have N2 : Aside0 (nextAt lb (at_ + 4) = at_ + 4) := ⟨N2.out.trans (if_neg (by rw [hb]; decide))⟩
      obtain ⟨rfl, rfl, rfl⟩ : z63 = p1 ∧ (4 : Int) = e1 ∧ at_ + 4 = q1 := by simpa using h
      have HC2 := HCEL.out (at_ + 4)
      rw [hb, N2.out] at HC2
      have HC2 := Aside0.mk HC2
      clear h HCEL N1 N2 R1 R2
      go_enter Try.func71, Try.ntmps71
      go_wp2_with (first | (go_at_call 69; refine (HC1.out _ HM.out.st).mono ?_; rintro e w1 ⟨rfl, hm⟩; have BK := Aside0.mk (blk_kept BK.out hm.kept (fun e => Nat.ne_of_gt HG.out e)); have HM := Aside0.mk (HM.out.then_ hm); clear hm; have z0 : w1.cell? ⟨W.heap.size, 0, none⟩ = some (.string ⟨#[]⟩) := (blk_cell BK.out 0).trans rfl; have z1 : w1.cell? ⟨W.heap.size, 1, none⟩ = some (.slice none 0 0) := (blk_cell BK.out 1).trans rfl; have y0 : w1.frozen? ⟨W.heap.size, 0, none⟩ = false := blk_frozen BK.out 0; have y1 : w1.frozen? ⟨W.heap.size, 1, none⟩ = false := blk_frozen BK.out 1; have kx1 : w1.cell? ⟨g, 1, none⟩ = some (.slice At lt.length ct) := (blk_cell HM.out.st.blk 1).trans rfl) | (go_at_call 69; refine (HC2.out _ HM.out.st).mono ?_; rintro e w2 ⟨rfl, hm⟩; have BK := Aside0.mk (blk_kept BK.out hm.kept (fun e => Nat.ne_of_gt HG.out e)); have HM := Aside0.mk (HM.out.then_ hm); clear hm; have z0 : w2.cell? ⟨W.heap.size, 0, none⟩ = some (.string ⟨#[]⟩) := (blk_cell BK.out 0).trans rfl; have z1 : w2.cell? ⟨W.heap.size, 1, none⟩ = some (.slice none 0 0) := (blk_cell BK.out 1).trans rfl; have y0 : w2.frozen? ⟨W.heap.size, 0, none⟩ = false := blk_frozen BK.out 0; have y1 : w2.frozen? ⟨W.heap.size, 1, none⟩ = false := blk_frozen BK.out 1; have kx1 : w2.cell? ⟨g, 1, none⟩ = some (.slice At lt.length ct) := (blk_cell HM.out.st.blk 1).trans rfl))
      refine bodyPost_ret (results_ct rfl _ _ W.heap.size 63 #[.string ⟨#[]⟩, .slice none 0 0] (0, 0) _ rfl (by refine blk_put (cs := #[.string ⟨#[]⟩, .slice none 0 0]) ?_ 1 _ rfl; refine blk_put (cs := #[.string ⟨#[]⟩, .slice none 0 0]) ?_ 0 _ rfl; repeat (first | exact BK.out | refine blk_drewN ?_ _)) Try.underlying63 rfl (by kernel_rfl)) rfl ⟨.slice none 0 0, rfl, ?_, Kd.R_nil _ _ _ _ _⟩
      exact RdM.opR0 (RdM.outer (RdM.outer (by repeat (first | exact HM.out | refine RdM.drewN ?_ _)) HG.out HS.out.bel.size 0 _) HG.out HS.out.bel.size 1 _) (by decide)
    | true =>
      rw [if_pos hb] at h
      have N2 : Aside0 (nextAt lb (at_ + 4) = at_ + 4 + 4) := ⟨N2.out.trans (if_pos hb)⟩
      have R2 := Aside0.mk (R2.out hb)
      have HC2 := HCEL.out (at_ + 4)
      rw [hb, N2.out] at HC2
      have HC2 := Aside0.mk HC2
      obtain ⟨⟨s, fine⟩, hx, h⟩ := Option.bind_eq_some_iff.mp h
      have HX := Aside0.mk (fun W2 (hb : Below w0.heap.size w0 W2) => words_Text.calls k At ct lt (cellAt lb (at_ + 4)) s fine W2 (Kd.C_below HCT.out hb) HCCT.out hx)
      have HK := Aside0.mk (fun W2 hS2 => reader_take.calls ab cb lb (.slice At lt.length ct) (at_ + 4 + 4) (cellAt lb at_) g w0 W2 HCB.out HCC.out hS2 (by have := R2.out; omega) (by have := R2.out; omega) V1.1 (by have := V1.2; omega))
      have v10 := V1.1
      have v11 := V1.2
      have v20 := V2.1
      have v21 := V2.2
      obtain ⟨⟨y, ok2, q⟩, hy⟩ : ∃ y, y = takeF lb (at_ + 4 + 4) (cellAt lb at_) := ⟨_, rfl⟩
      obtain ⟨c1, hc1⟩ : ∃ c, c = cellAt lb at_ := ⟨_, rfl⟩
      obtain ⟨c2, hc2⟩ : ∃ c, c = cellAt lb (at_ + 4) := ⟨_, rfl⟩
      rw [← hy] at h HK
      rw [← hc1] at HC1 HK v10 v11
      rw [← hc2] at HC2 HX v20 v21
      clear hy hc1 hc2 hx HCEL N1 N2 R1 R2 V1 V2 ha hb
      simp only at h HK
      cases ok2 with
      | false =>
        rw [if_neg (by decide)] at h
        obtain ⟨rfl, rfl, rfl⟩ : z63 = p1 ∧ (4 : Int) = e1 ∧ q = q1 := by simpa using h
        clear h
        go_enter Try.func71, Try.ntmps71
        go_wp2_with (first | (first | (go_at_call 69; refine (HC1.out _ HM.out.st).mono ?_; rintro e w1 ⟨rfl, hm⟩; have BK := Aside0.mk (blk_kept BK.out hm.kept (fun e => Nat.ne_of_gt HG.out e)); have HM := Aside0.mk (HM.out.then_ hm); clear hm; have z0 : w1.cell? ⟨W.heap.size, 0, none⟩ = some (.string ⟨#[]⟩) := (blk_cell BK.out 0).trans rfl; have z1 : w1.cell? ⟨W.heap.size, 1, none⟩ = some (.slice none 0 0) := (blk_cell BK.out 1).trans rfl; have y0 : w1.frozen? ⟨W.heap.size, 0, none⟩ = false := blk_frozen BK.out 0; have y1 : w1.frozen? ⟨W.heap.size, 1, none⟩ = false := blk_frozen BK.out 1; have kx1 : w1.cell? ⟨g, 1, none⟩ = some (.slice At lt.length ct) := (blk_cell HM.out.st.blk 1).trans rfl) | (go_at_call 69; refine (HC2.out _ HM.out.st).mono ?_; rintro e w2 ⟨rfl, hm⟩; have BK := Aside0.mk (blk_kept BK.out hm.kept (fun e => Nat.ne_of_gt HG.out e)); have HM := Aside0.mk (HM.out.then_ hm); clear hm; have z0 : w2.cell? ⟨W.heap.size, 0, none⟩ = some (.string ⟨#[]⟩) := (blk_cell BK.out 0).trans rfl; have z1 : w2.cell? ⟨W.heap.size, 1, none⟩ = some (.slice none 0 0) := (blk_cell BK.out 1).trans rfl; have y0 : w2.frozen? ⟨W.heap.size, 0, none⟩ = false := blk_frozen BK.out 0; have y1 : w2.frozen? ⟨W.heap.size, 1, none⟩ = false := blk_frozen BK.out 1; have kx1 : w2.cell? ⟨g, 1, none⟩ = some (.slice At lt.length ct) := (blk_cell HM.out.st.blk 1).trans rfl)) | (go_at_call 84; refine (HK.out _ HM.out.st).mono ?_; rintro e w3 ⟨A2, c2_, rfl, hl2, hC2, hm⟩; have HY := Aside0.mk hC2; have HYL := Aside0.mk hl2; clear hC2 hl2; have BK := Aside0.mk (blk_kept BK.out hm.kept (fun e => Nat.ne_of_gt HG.out e)); have HM := Aside0.mk (HM.out.then_ hm); clear hm; have z0 : w3.cell? ⟨W.heap.size, 0, none⟩ = some (.string ⟨#[]⟩) := (blk_cell BK.out 0).trans rfl; have z1 : w3.cell? ⟨W.heap.size, 1, none⟩ = some (.slice none 0 0) := (blk_cell BK.out 1).trans rfl; have y0 : w3.frozen? ⟨W.heap.size, 0, none⟩ = false := blk_frozen BK.out 0; have y1 : w3.frozen? ⟨W.heap.size, 1, none⟩ = false := blk_frozen BK.out 1; have kx1 : w3.cell? ⟨g, 1, none⟩ = some (.slice At lt.length ct) := (blk_cell HM.out.st.blk 1).trans rfl; (try have hlk0 := HLK.out _ HM.out.kept); (try have hlkn := fun n_ : Nat => HLK.out _ (HM.out.kept.drewN n_))) | (go_at_call 83; refine (HX.out _ HM.out.st.bel).mono ?_; rintro e w4 ⟨rfl, ⟨nd, rfl⟩⟩) | (go_at_call 86; refine (HN.out _).mono ?_; rintro e w5 ⟨rfl, ⟨nd2, rfl⟩⟩))
        refine bodyPost_ret (results_ct rfl _ _ W.heap.size 63 #[.string ⟨#[]⟩, .slice none 0 0] (0, 0) _ rfl (by refine blk_put (cs := #[.string ⟨#[]⟩, .slice none 0 0]) ?_ 1 _ rfl; refine blk_put (cs := #[.string ⟨#[]⟩, .slice none 0 0]) ?_ 0 _ rfl; repeat (first | exact BK.out | refine blk_drewN ?_ _)) Try.underlying63 rfl (by kernel_rfl)) rfl ⟨.slice none 0 0, rfl, ?_, Kd.R_nil _ _ _ _ _⟩
        exact RdM.opR0 (RdM.outer (RdM.outer (by repeat (first | exact HM.out | refine RdM.drewN ?_ _)) HG.out HS.out.bel.size 0 _) HG.out HS.out.bel.size 1 _) (by decide)
      | true =>
        rw [if_pos rfl] at h
        cases fine with
        | false =>
          rw [if_neg (by decide)] at h
          obtain ⟨rfl, rfl, rfl⟩ : z63 = p1 ∧ (4 : Int) = e1 ∧ q = q1 := by simpa using h
          clear h
          go_enter Try.func71, Try.ntmps71
          go_wp2_with (first | (first | (go_at_call 69; refine (HC1.out _ HM.out.st).mono ?_; rintro e w1 ⟨rfl, hm⟩; have BK := Aside0.mk (blk_kept BK.out hm.kept (fun e => Nat.ne_of_gt HG.out e)); have HM := Aside0.mk (HM.out.then_ hm); clear hm; have z0 : w1.cell? ⟨W.heap.size, 0, none⟩ = some (.string ⟨#[]⟩) := (blk_cell BK.out 0).trans rfl; have z1 : w1.cell? ⟨W.heap.size, 1, none⟩ = some (.slice none 0 0) := (blk_cell BK.out 1).trans rfl; have y0 : w1.frozen? ⟨W.heap.size, 0, none⟩ = false := blk_frozen BK.out 0; have y1 : w1.frozen? ⟨W.heap.size, 1, none⟩ = false := blk_frozen BK.out 1; have kx1 : w1.cell? ⟨g, 1, none⟩ = some (.slice At lt.length ct) := (blk_cell HM.out.st.blk 1).trans rfl) | (go_at_call 69; refine (HC2.out _ HM.out.st).mono ?_; rintro e w2 ⟨rfl, hm⟩; have BK := Aside0.mk (blk_kept BK.out hm.kept (fun e => Nat.ne_of_gt HG.out e)); have HM := Aside0.mk (HM.out.then_ hm); clear hm; have z0 : w2.cell? ⟨W.heap.size, 0, none⟩ = some (.string ⟨#[]⟩) := (blk_cell BK.out 0).trans rfl; have z1 : w2.cell? ⟨W.heap.size, 1, none⟩ = some (.slice none 0 0) := (blk_cell BK.out 1).trans rfl; have y0 : w2.frozen? ⟨W.heap.size, 0, none⟩ = false := blk_frozen BK.out 0; have y1 : w2.frozen? ⟨W.heap.size, 1, none⟩ = false := blk_frozen BK.out 1; have kx1 : w2.cell? ⟨g, 1, none⟩ = some (.slice At lt.length ct) := (blk_cell HM.out.st.blk 1).trans rfl)) | (go_at_call 84; refine (HK.out _ HM.out.st).mono ?_; rintro e w3 ⟨A2, c2_, rfl, hl2, hC2, hm⟩; have HY := Aside0.mk hC2; have HYL := Aside0.mk hl2; clear hC2 hl2; have BK := Aside0.mk (blk_kept BK.out hm.kept (fun e => Nat.ne_of_gt HG.out e)); have HM := Aside0.mk (HM.out.then_ hm); clear hm; have z0 : w3.cell? ⟨W.heap.size, 0, none⟩ = some (.string ⟨#[]⟩) := (blk_cell BK.out 0).trans rfl; have z1 : w3.cell? ⟨W.heap.size, 1, none⟩ = some (.slice none 0 0) := (blk_cell BK.out 1).trans rfl; have y0 : w3.frozen? ⟨W.heap.size, 0, none⟩ = false := blk_frozen BK.out 0; have y1 : w3.frozen? ⟨W.heap.size, 1, none⟩ = false := blk_frozen BK.out 1; have kx1 : w3.cell? ⟨g, 1, none⟩ = some (.slice At lt.length ct) := (blk_cell HM.out.st.blk 1).trans rfl; (try have hlk0 := HLK.out _ HM.out.kept); (try have hlkn := fun n_ : Nat => HLK.out _ (HM.out.kept.drewN n_))) | (go_at_call 83; refine (HX.out _ HM.out.st.bel).mono ?_; rintro e w4 ⟨rfl, ⟨nd, rfl⟩⟩) | (go_at_call 86; refine (HN.out _).mono ?_; rintro e w5 ⟨rfl, ⟨nd2, rfl⟩⟩))
          refine bodyPost_ret (results_ct rfl _ _ W.heap.size 63 #[.string ⟨#[]⟩, .slice none 0 0] (0, 0) _ rfl (by refine blk_put (cs := #[.string ⟨#[]⟩, .slice none 0 0]) ?_ 1 _ rfl; refine blk_put (cs := #[.string ⟨#[]⟩, .slice none 0 0]) ?_ 0 _ rfl; repeat (first | exact BK.out | refine blk_drewN ?_ _)) Try.underlying63 rfl (by kernel_rfl)) rfl ⟨.slice none 0 0, rfl, ?_, Kd.R_nil _ _ _ _ _⟩
          exact RdM.opR0 (RdM.outer (RdM.outer (by repeat (first | exact HM.out | refine RdM.drewN ?_ _)) HG.out HS.out.bel.size 0 _) HG.out HS.out.bel.size 1 _) (by decide)
        | true =>
          rw [if_pos rfl] at h
          by_cases hz : (s.size : Int) < 1099511627776
          case neg => rw [if_neg hz] at h; cases h
          rw [if_pos hz] at h
          have HZ : Aside0 (s.size ≤ maxLen) := ⟨by unfold maxLen; omega⟩
          obtain ⟨b, hb, h⟩ := Option.bind_eq_some_iff.mp h
          have HN := Aside0.mk (fun W2 => name_Prop.calls k s b W2 hb)
          clear hz hb
          cases b with
          | false =>
            rw [if_neg (by decide)] at h
            obtain ⟨rfl, rfl, rfl⟩ : z63 = p1 ∧ (5 : Int) = e1 ∧ q = q1 := by simpa using h
            clear h
            go_enter Try.func71, Try.ntmps71
            go_wp2_with (first | (first | (go_at_call 69; refine (HC1.out _ HM.out.st).mono ?_; rintro e w1 ⟨rfl, hm⟩; have BK := Aside0.mk (blk_kept BK.out hm.kept (fun e => Nat.ne_of_gt HG.out e)); have HM := Aside0.mk (HM.out.then_ hm); clear hm; have z0 : w1.cell? ⟨W.heap.size, 0, none⟩ = some (.string ⟨#[]⟩) := (blk_cell BK.out 0).trans rfl; have z1 : w1.cell? ⟨W.heap.size, 1, none⟩ = some (.slice none 0 0) := (blk_cell BK.out 1).trans rfl; have y0 : w1.frozen? ⟨W.heap.size, 0, none⟩ = false := blk_frozen BK.out 0; have y1 : w1.frozen? ⟨W.heap.size, 1, none⟩ = false := blk_frozen BK.out 1; have kx1 : w1.cell? ⟨g, 1, none⟩ = some (.slice At lt.length ct) := (blk_cell HM.out.st.blk 1).trans rfl) | (go_at_call 69; refine (HC2.out _ HM.out.st).mono ?_; rintro e w2 ⟨rfl, hm⟩; have BK := Aside0.mk (blk_kept BK.out hm.kept (fun e => Nat.ne_of_gt HG.out e)); have HM := Aside0.mk (HM.out.then_ hm); clear hm; have z0 : w2.cell? ⟨W.heap.size, 0, none⟩ = some (.string ⟨#[]⟩) := (blk_cell BK.out 0).trans rfl; have z1 : w2.cell? ⟨W.heap.size, 1, none⟩ = some (.slice none 0 0) := (blk_cell BK.out 1).trans rfl; have y0 : w2.frozen? ⟨W.heap.size, 0, none⟩ = false := blk_frozen BK.out 0; have y1 : w2.frozen? ⟨W.heap.size, 1, none⟩ = false := blk_frozen BK.out 1; have kx1 : w2.cell? ⟨g, 1, none⟩ = some (.slice At lt.length ct) := (blk_cell HM.out.st.blk 1).trans rfl)) | (go_at_call 84; refine (HK.out _ HM.out.st).mono ?_; rintro e w3 ⟨A2, c2_, rfl, hl2, hC2, hm⟩; have HY := Aside0.mk hC2; have HYL := Aside0.mk hl2; clear hC2 hl2; have BK := Aside0.mk (blk_kept BK.out hm.kept (fun e => Nat.ne_of_gt HG.out e)); have HM := Aside0.mk (HM.out.then_ hm); clear hm; have z0 : w3.cell? ⟨W.heap.size, 0, none⟩ = some (.string ⟨#[]⟩) := (blk_cell BK.out 0).trans rfl; have z1 : w3.cell? ⟨W.heap.size, 1, none⟩ = some (.slice none 0 0) := (blk_cell BK.out 1).trans rfl; have y0 : w3.frozen? ⟨W.heap.size, 0, none⟩ = false := blk_frozen BK.out 0; have y1 : w3.frozen? ⟨W.heap.size, 1, none⟩ = false := blk_frozen BK.out 1; have kx1 : w3.cell? ⟨g, 1, none⟩ = some (.slice At lt.length ct) := (blk_cell HM.out.st.blk 1).trans rfl; (try have hlk0 := HLK.out _ HM.out.kept); (try have hlkn := fun n_ : Nat => HLK.out _ (HM.out.kept.drewN n_))) | (go_at_call 83; refine (HX.out _ HM.out.st.bel).mono ?_; rintro e w4 ⟨rfl, ⟨nd, rfl⟩⟩) | (go_at_call 86; refine (HN.out _).mono ?_; rintro e w5 ⟨rfl, ⟨nd2, rfl⟩⟩))
            refine bodyPost_ret (results_ct rfl _ _ W.heap.size 63 #[.string ⟨#[]⟩, .slice none 0 0] (0, 0) _ rfl (by refine blk_put (cs := #[.string ⟨#[]⟩, .slice none 0 0]) ?_ 1 _ rfl; refine blk_put (cs := #[.string ⟨#[]⟩, .slice none 0 0]) ?_ 0 _ rfl; repeat (first | exact BK.out | refine blk_drewN ?_ _)) Try.underlying63 rfl (by kernel_rfl)) rfl ⟨.slice none 0 0, rfl, ?_, Kd.R_nil _ _ _ _ _⟩
            exact RdM.opR0 (RdM.outer (RdM.outer (by repeat (first | exact HM.out | refine RdM.drewN ?_ _)) HG.out HS.out.bel.size 0 _) HG.out HS.out.bel.size 1 _) (by decide)
          | true =>
            rw [if_pos rfl] at h
            cases hkb : knownB hs s with
            | true =>
              rw [if_pos hkb] at h
              obtain ⟨rfl, rfl, rfl⟩ : z63 = p1 ∧ (9 : Int) = e1 ∧ q = q1 := by simpa using h
              clear h
              have HLK := Aside0.mk (fun W2 (hk : Kept W W2 (fun k => k = g)) => (HD.out W2 hk).look s HZ.out)
              rw [hkb] at HLK
              go_enter Try.func71, Try.ntmps71
              go_wp2_with (first | (first | (go_at_call 69; refine (HC1.out _ HM.out.st).mono ?_; rintro e w1 ⟨rfl, hm⟩; have BK := Aside0.mk (blk_kept BK.out hm.kept (fun e => Nat.ne_of_gt HG.out e)); have HM := Aside0.mk (HM.out.then_ hm); clear hm; have z0 : w1.cell? ⟨W.heap.size, 0, none⟩ = some (.string ⟨#[]⟩) := (blk_cell BK.out 0).trans rfl; have z1 : w1.cell? ⟨W.heap.size, 1, none⟩ = some (.slice none 0 0) := (blk_cell BK.out 1).trans rfl; have y0 : w1.frozen? ⟨W.heap.size, 0, none⟩ = false := blk_frozen BK.out 0; have y1 : w1.frozen? ⟨W.heap.size, 1, none⟩ = false := blk_frozen BK.out 1; have kx1 : w1.cell? ⟨g, 1, none⟩ = some (.slice At lt.length ct) := (blk_cell HM.out.st.blk 1).trans rfl) | (go_at_call 69; refine (HC2.out _ HM.out.st).mono ?_; rintro e w2 ⟨rfl, hm⟩; have BK := Aside0.mk (blk_kept BK.out hm.kept (fun e => Nat.ne_of_gt HG.out e)); have HM := Aside0.mk (HM.out.then_ hm); clear hm; have z0 : w2.cell? ⟨W.heap.size, 0, none⟩ = some (.string ⟨#[]⟩) := (blk_cell BK.out 0).trans rfl; have z1 : w2.cell? ⟨W.heap.size, 1, none⟩ = some (.slice none 0 0) := (blk_cell BK.out 1).trans rfl; have y0 : w2.frozen? ⟨W.heap.size, 0, none⟩ = false := blk_frozen BK.out 0; have y1 : w2.frozen? ⟨W.heap.size, 1, none⟩ = false := blk_frozen BK.out 1; have kx1 : w2.cell? ⟨g, 1, none⟩ = some (.slice At lt.length ct) := (blk_cell HM.out.st.blk 1).trans rfl)) | (go_at_call 84; refine (HK.out _ HM.out.st).mono ?_; rintro e w3 ⟨A2, c2_, rfl, hl2, hC2, hm⟩; have HY := Aside0.mk hC2; have HYL := Aside0.mk hl2; clear hC2 hl2; have BK := Aside0.mk (blk_kept BK.out hm.kept (fun e => Nat.ne_of_gt HG.out e)); have HM := Aside0.mk (HM.out.then_ hm); clear hm; have z0 : w3.cell? ⟨W.heap.size, 0, none⟩ = some (.string ⟨#[]⟩) := (blk_cell BK.out 0).trans rfl; have z1 : w3.cell? ⟨W.heap.size, 1, none⟩ = some (.slice none 0 0) := (blk_cell BK.out 1).trans rfl; have y0 : w3.frozen? ⟨W.heap.size, 0, none⟩ = false := blk_frozen BK.out 0; have y1 : w3.frozen? ⟨W.heap.size, 1, none⟩ = false := blk_frozen BK.out 1; have kx1 : w3.cell? ⟨g, 1, none⟩ = some (.slice At lt.length ct) := (blk_cell HM.out.st.blk 1).trans rfl; (try have hlk0 := HLK.out _ HM.out.kept); (try have hlkn := fun n_ : Nat => HLK.out _ (HM.out.kept.drewN n_))) | (go_at_call 83; refine (HX.out _ HM.out.st.bel).mono ?_; rintro e w4 ⟨rfl, ⟨nd, rfl⟩⟩) | (go_at_call 86; refine (HN.out _).mono ?_; rintro e w5 ⟨rfl, ⟨nd2, rfl⟩⟩))
              refine bodyPost_ret (results_ct rfl _ _ W.heap.size 63 #[.string ⟨#[]⟩, .slice none 0 0] (0, 0) _ rfl (by refine blk_put (cs := #[.string ⟨#[]⟩, .slice none 0 0]) ?_ 1 _ rfl; refine blk_put (cs := #[.string ⟨#[]⟩, .slice none 0 0]) ?_ 0 _ rfl; repeat (first | exact BK.out | refine blk_drewN ?_ _)) Try.underlying63 rfl (by kernel_rfl)) rfl ⟨.slice none 0 0, rfl, ?_, Kd.R_nil _ _ _ _ _⟩
              exact RdM.opR0 (RdM.outer (RdM.outer (by repeat (first | exact HM.out | refine RdM.drewN ?_ _)) HG.out HS.out.bel.size 0 _) HG.out HS.out.bel.size 1 _) (by decide)
            | false =>
              rw [if_neg (by rw [hkb]; decide)] at h
              by_cases hl : hs.length < 1099511627776
              case neg => rw [if_neg hl] at h; cases h
              rw [if_pos hl] at h
              obtain ⟨v, hv, h⟩ := Option.bind_eq_some_iff.mp h
              obtain ⟨rfl, rfl, rfl⟩ : (⟨s, v⟩ : S63) = p1 ∧ (0 : Int) = e1 ∧ q = q1 := by simpa using h
              have HL : Aside0 (hs.length < maxLen) := ⟨by unfold maxLen; omega⟩
              have HV := Aside0.mk hv
              clear h hl hv
              have HLK := Aside0.mk (fun W2 (hk : Kept W W2 (fun k => k = g)) => (HD.out W2 hk).look s HZ.out)
              rw [hkb] at HLK
              go_enter Try.func71, Try.ntmps71
              go_wp2_with (first | (at_mapUpdate; refine wpList_mapS _ rfl _ _ _ rfl m hs rfl (HD.out _ (by repeat (first | exact HM.out.kept | refine Kept.drewN ?_ _))) HL.out s rfl HZ.out rfl ?_; intro w6 hm6 hg6; have HO := Aside0.mk (OpR.put (RdM.drewN HM.out _) hg6 hm6 hm hne); have BK6 := Aside0.mk (blk_grown (blk_drewN BK.out _) hg6 (fun e => Nat.ne_of_gt HLTM.out (by injection e))); clear hm6 hg6) | (go_at_call 79; refine (bytes_Clone.calls A2 c2_ y v _ (Kd.C_below HY.out HO.out.st.bel) HYL.out HV.out).mono ?_; rintro e w7 ⟨v0, rfl, hr7, hb7⟩; obtain ⟨Av, cv, rfl⟩ := Kd.R_slice hr7; have HR7 := Aside0.mk hr7; have HO := Aside0.mk (HO.out.below hb7); have HB6 := Aside0.mk (blk_lt BK6.out); have BK := Aside0.mk (blk_below BK6.out hb7); clear hr7 hb7; have z0 : w7.cell? ⟨W.heap.size, 0, none⟩ = some (.string ⟨#[]⟩) := (blk_cell BK.out 0).trans rfl; have z1 : w7.cell? ⟨W.heap.size, 1, none⟩ = some (.slice none 0 0) := (blk_cell BK.out 1).trans rfl; have y0 : w7.frozen? ⟨W.heap.size, 0, none⟩ = false := blk_frozen BK.out 0; have y1 : w7.frozen? ⟨W.heap.size, 1, none⟩ = false := blk_frozen BK.out 1) | (first | (go_at_call 69; refine (HC1.out _ HM.out.st).mono ?_; rintro e w1 ⟨rfl, hm⟩; have BK := Aside0.mk (blk_kept BK.out hm.kept (fun e => Nat.ne_of_gt HG.out e)); have HM := Aside0.mk (HM.out.then_ hm); clear hm; have z0 : w1.cell? ⟨W.heap.size, 0, none⟩ = some (.string ⟨#[]⟩) := (blk_cell BK.out 0).trans rfl; have z1 : w1.cell? ⟨W.heap.size, 1, none⟩ = some (.slice none 0 0) := (blk_cell BK.out 1).trans rfl; have y0 : w1.frozen? ⟨W.heap.size, 0, none⟩ = false := blk_frozen BK.out 0; have y1 : w1.frozen? ⟨W.heap.size, 1, none⟩ = false := blk_frozen BK.out 1; have kx1 : w1.cell? ⟨g, 1, none⟩ = some (.slice At lt.length ct) := (blk_cell HM.out.st.blk 1).trans rfl) | (go_at_call 69; refine (HC2.out _ HM.out.st).mono ?_; rintro e w2 ⟨rfl, hm⟩; have BK := Aside0.mk (blk_kept BK.out hm.kept (fun e => Nat.ne_of_gt HG.out e)); have HM := Aside0.mk (HM.out.then_ hm); clear hm; have z0 : w2.cell? ⟨W.heap.size, 0, none⟩ = some (.string ⟨#[]⟩) := (blk_cell BK.out 0).trans rfl; have z1 : w2.cell? ⟨W.heap.size, 1, none⟩ = some (.slice none 0 0) := (blk_cell BK.out 1).trans rfl; have y0 : w2.frozen? ⟨W.heap.size, 0, none⟩ = false := blk_frozen BK.out 0; have y1 : w2.frozen? ⟨W.heap.size, 1, none⟩ = false := blk_frozen BK.out 1; have kx1 : w2.cell? ⟨g, 1, none⟩ = some (.slice At lt.length ct) := (blk_cell HM.out.st.blk 1).trans rfl)) | (go_at_call 84; refine (HK.out _ HM.out.st).mono ?_; rintro e w3 ⟨A2, c2_, rfl, hl2, hC2, hm⟩; have HY := Aside0.mk hC2; have HYL := Aside0.mk hl2; clear hC2 hl2; have BK := Aside0.mk (blk_kept BK.out hm.kept (fun e => Nat.ne_of_gt HG.out e)); have HM := Aside0.mk (HM.out.then_ hm); clear hm; have z0 : w3.cell? ⟨W.heap.size, 0, none⟩ = some (.string ⟨#[]⟩) := (blk_cell BK.out 0).trans rfl; have z1 : w3.cell? ⟨W.heap.size, 1, none⟩ = some (.slice none 0 0) := (blk_cell BK.out 1).trans rfl; have y0 : w3.frozen? ⟨W.heap.size, 0, none⟩ = false := blk_frozen BK.out 0; have y1 : w3.frozen? ⟨W.heap.size, 1, none⟩ = false := blk_frozen BK.out 1; have kx1 : w3.cell? ⟨g, 1, none⟩ = some (.slice At lt.length ct) := (blk_cell HM.out.st.blk 1).trans rfl; (try have hlk0 := HLK.out _ HM.out.kept); (try have hlkn := fun n_ : Nat => HLK.out _ (HM.out.kept.drewN n_))) | (go_at_call 83; refine (HX.out _ HM.out.st.bel).mono ?_; rintro e w4 ⟨rfl, ⟨nd, rfl⟩⟩) | (go_at_call 86; refine (HN.out _).mono ?_; rintro e w5 ⟨rfl, ⟨nd2, rfl⟩⟩))
              refine bodyPost_ret (results_ct rfl _ _ W.heap.size 63 #[.string s, .slice Av v.length cv] (0, 0) _ rfl (by refine blk_put (cs := #[.string s, .slice none 0 0]) ?_ 1 _ rfl; refine blk_put (cs := #[.string ⟨#[]⟩, .slice none 0 0]) ?_ 0 _ rfl; exact BK.out) Try.underlying63 rfl (by kernel_rfl)) rfl ⟨.slice Av v.length cv, rfl, ?_, ?_⟩
              · exact OpR.outer (OpR.outer HO.out HG.out HLTM.out HS.out.bel.size 0 _) HG.out HLTM.out HS.out.bel.size 1 _
              · exact Kd.R_lower (R_outer (R_outer HR7.out HB6.out 0 _) HB6.out 1 _) (Nat.le_of_lt HB6.out)
end Go.Proofs.Ytkopmkinlanhoaa.PE

namespace Go.Proofs.Ytkopmkinlanhoaa.PE
open Go.RowKit Go.Proofs.YtkopmkinlanhoaaW.PrintWords Go.Proofs.YtkopmkinlanhoaaW.PrintLast Go.Proofs.YtkopmkinlanhoaaW.PrintMore
attribute [local go_sem] max2_int min2_int max_two min_two max_three min_three max_four min_four
set_option linter.unusedVariables false
set_option linter.unusedSimpArgs false
mutual
/-- A node behind its BEGIN, what is wrong with it, and where the next byte is. -/
def nodeF : Nat → List Int → List Int → Int → List ByteArray → Int → Option (S27 × Int × Int)
  | 0, _, _, _, _, _ => none
  | k + 1, l, lt, i, hs, d => (openF k l i hs d).bind fun o => if o.2.1 = 0 then nodeL k l lt o.2.2 o.1 d [] [] else some (z27, o.2.1, o.2.2)
def nodeL : Nat → List Int → List Int → Int → ByteArray → Int → List S63 → List S27 → Option (S27 × Int × Int)
  | 0, _, _, _, _, _, _, _ => none
  | k + 1, l, lt, i, s, d, ps, ks => (tokF k l i).bind fun t =>
    if t.2.1 = true then (if t.1 = 9 then some (z27, 4, t.2.2) else if t.1 = 3 then (if 0 < ks.length then some (z27, 4, t.2.2) else
        (propF k l lt t.2.2 (ps.map (·.f0))).bind fun p => if p.2.1 = 0 then (if ps.length + 1 < 1099511627776 then nodeL k l lt p.2.2 s d (ps ++ [p.1]) ks else none) else some (z27, p.2.1, p.2.2))
      else if t.1 = 2 then some (⟨s, ps, ks⟩, 0, t.2.2)
      else (nodeF k l lt t.2.2 (ks.map (·.f0)) (wrap64 (d + 1))).bind fun x => if x.2.1 = 0 then (if ks.length + 1 < 1099511627776 then nodeL k l lt x.2.2 s d ps (ks ++ [x.1]) else none) else some (z27, x.2.1, x.2.2))
    else some (z27, 4, t.2.2)
end
structure NdC (w0 wL : World) (g gn g6 m mp mk : Nat) : Prop where
  bg : g < wL.heap.size
  bgn : gn < wL.heap.size
  b6 : g6 < wL.heap.size
  bm : m < wL.heap.size
  bmp : mp < wL.heap.size
  bmk : mk < wL.heap.size
  lon : w0.heap.size ≤ gn
  lop : w0.heap.size ≤ mp
  lok : w0.heap.size ≤ mk
  ggn : g ≠ gn
  ggp : g ≠ mp
  ggk : g ≠ mk
  gnp : gn ≠ mp
  gnk : gn ≠ mk
  pk : mp ≠ mk
  six : g6 ≠ g ∧ g6 ≠ gn ∧ g6 ≠ mp ∧ g6 ≠ mk
  mm : m ≠ g ∧ m ≠ gn ∧ m ≠ mp ∧ m ≠ mk
structure NdS (w0 wL W : World) (g gn mp mk : Nat) (sb st : Value) (i : Int) (s : ByteArray) (hp hk : List ByteArray) (A1 : Option Addr) (c1 : Nat) (ps : List S63) (A2 : Option Addr) (c2 : Nat) (ks : List S27) : Prop where
  rs : RdS w0 W g sb st i
  kept : Kept wL W (fun k => k = g ∨ k = mp ∨ k = mk ∨ k = gn)
  mP : MapS W mp hp
  mK : MapS W mk hk
  blk : W.heap[gn]? = some (.cells #[.string s, .slice A1 ps.length c1, .slice A2 ks.length c2] 27 (0, 0))
  rp : Kd.R k63 63 W wL.heap.size (fun _ => True) (.slice A1 ps.length c1) ps
  rk : Kd.R k27 27 W wL.heap.size (fun _ => True) (.slice A2 ks.length c2) ks
section
variable {w0 wL W W2 : World} {g gn g6 m mp mk : Nat} {sb st : Value} {i q : Int} {s : ByteArray} {hp hk : List ByteArray} {A1 A2 : Option Addr} {c1 c2 : Nat} {ps : List S63} {ks : List S27}
theorem NdS.moved (h : NdS w0 wL W g gn mp mk sb st i s hp hk A1 c1 ps A2 c2 ks) (C : NdC w0 wL g gn g6 m mp mk) (hm : RdM w0 W W2 g sb st q) : NdS w0 wL W2 g gn mp mk sb st q s hp hk A1 c1 ps A2 c2 ks :=
  ⟨hm.st, h.kept.then_ hm.kept (fun k hk => .inl (.inl hk)), h.mP.kept hm.kept (fun e => C.ggp e.symm), h.mK.kept hm.kept (fun e => C.ggk e.symm), blk_kept h.blk hm.kept (fun e => C.ggn e.symm),
    Kd.R_mono (Kd.R_kept (Kd.R_bound h.rp) hm.kept (fun k hk e => by have := C.bg; have := hk.2.1; omega)) (fun _ _ => trivial), Kd.R_mono (Kd.R_kept (Kd.R_bound h.rk) hm.kept (fun k hk e => by have := C.bg; have := hk.2.1; omega)) (fun _ _ => trivial)⟩
theorem NdS.below (h : NdS w0 wL W g gn mp mk sb st i s hp hk A1 c1 ps A2 c2 ks) (hb : Below W.heap.size W W2) : NdS w0 wL W2 g gn mp mk sb st i s hp hk A1 c1 ps A2 c2 ks :=
  ⟨h.rs.below hb, h.kept.below hb, h.mP.below hb, h.mK.below hb, blk_below h.blk hb, Kd.R_below h.rp hb, Kd.R_below h.rk hb⟩
theorem NdS.prop (h : NdS w0 wL W g gn mp mk sb st i s hp hk A1 c1 ps A2 c2 ks) (C : NdC w0 wL g gn g6 m mp mk) {nm : ByteArray} (ho : OpR w0 W W2 g mp sb st q 0 hp nm) : NdS w0 wL W2 g gn mp mk sb st q s (hp ++ [nm]) hk A1 c1 ps A2 c2 ks :=
  ⟨ho.st, h.kept.then_ ho.kept (fun k hk => .inl (hk.elim .inl (fun e => .inr (.inl e)))), ho.map rfl, h.mK.kept ho.kept (fun e => e.elim (fun e => C.ggk e.symm) (fun e => C.pk e.symm)), blk_kept h.blk ho.kept (fun e => e.elim (fun e => C.ggn e.symm) C.gnp),
    Kd.R_mono (Kd.R_kept (Kd.R_bound h.rp) ho.kept (fun k hk e => by have := C.bg; have := C.bmp; have := hk.2.1; omega)) (fun _ _ => trivial), Kd.R_mono (Kd.R_kept (Kd.R_bound h.rk) ho.kept (fun k hk e => by have := C.bg; have := C.bmp; have := hk.2.1; omega)) (fun _ _ => trivial)⟩
theorem NdS.kid (h : NdS w0 wL W g gn mp mk sb st i s hp hk A1 c1 ps A2 c2 ks) (C : NdC w0 wL g gn g6 m mp mk) {nm : ByteArray} (ho : OpR w0 W W2 g mk sb st q 0 hk nm) : NdS w0 wL W2 g gn mp mk sb st q s hp (hk ++ [nm]) A1 c1 ps A2 c2 ks :=
  ⟨ho.st, h.kept.then_ ho.kept (fun k hk => .inl (hk.elim .inl (fun e => .inr (.inr (.inl e))))), h.mP.kept ho.kept (fun e => e.elim (fun e => C.ggp e.symm) C.pk), ho.map rfl, blk_kept h.blk ho.kept (fun e => e.elim (fun e => C.ggn e.symm) C.gnk),
    Kd.R_mono (Kd.R_kept (Kd.R_bound h.rp) ho.kept (fun k hk e => by have := C.bg; have := C.bmk; have := hk.2.1; omega)) (fun _ _ => trivial), Kd.R_mono (Kd.R_kept (Kd.R_bound h.rk) ho.kept (fun k hk e => by have := C.bg; have := C.bmk; have := hk.2.1; omega)) (fun _ _ => trivial)⟩
theorem NdS.own (h : NdS w0 wL W g gn mp mk sb st i s hp hk A1 c1 ps A2 c2 ks) : ∀ k, (Value.slice A1 ps.length c1).ownBlock = some k → wL.heap.size ≤ k := Kd.R_base h.rp
theorem NdS.ownK (h : NdS w0 wL W g gn mp mk sb st i s hp hk A1 c1 ps A2 c2 ks) : ∀ k, (Value.slice A2 ks.length c2).ownBlock = some k → wL.heap.size ≤ k := Kd.R_base h.rk
theorem R_nil_grown {v : Value} {row : Option Nat} (h : Kd.R k27 27 W wL.heap.size (fun _ => True) v []) (hg : W.grownBy W2 row) (hne : v.ownBlock = none ∨ v.ownBlock ≠ row) : Kd.R k27 27 W2 wL.heap.size (fun _ => True) v [] := by
  obtain ⟨h0, inner, ho, hr⟩ := h
  have hi : inner = [] := List.eq_nil_of_length_eq_zero (by rw [hr.1]; simp)
  subst hi
  exact ⟨h0, [], own_other ho hg hne, Reps.none _ _⟩
theorem setFar (W : World) (gn j k : Nat) (u : Value) (hne : k ≠ gn) : (W.setCell ⟨gn, j, none⟩ u).heap[k]? = W.heap[k]? := Below.heap_setCell W ⟨gn, j, none⟩ u k hne
theorem NdS.addP (h : NdS w0 wL W g gn mp mk sb st i s hp hk A1 c1 ps A2 c2 []) (C : NdC w0 wL g gn g6 m mp mk) {p : S63} {A : Option Addr} {c : Nat}
    (hr : Kd.R k63 63 W2 wL.heap.size (fun _ => True) (.slice A (ps ++ [p]).length c) (ps ++ [p])) (hg : W.grownBy W2 (Value.slice A1 ps.length c1).ownBlock) :
    NdS w0 wL (W2.setCell ⟨gn, 1, none⟩ (.slice A (ps ++ [p]).length c)) g gn mp mk sb st i s hp hk A c (ps ++ [p]) A2 c2 [] := by
  have hno : ∀ k, k < wL.heap.size → some k ≠ (Value.slice A1 ps.length c1).ownBlock := fun k hk e => by have := h.own k e.symm; omega
  have hk2 : Kept wL W2 (fun k => k = g ∨ k = mp ∨ k = mk ∨ k = gn) := Kept.of_grown hg h.kept (fun k e => .inr (h.own k e))
  have hs : RdS w0 W2 g sb st i := ⟨h.rs.bel.grown hg h.rs.bel.size (fun k e => by have := h.own k e; have := C.lon; have := C.bgn; omega), h.rs.lo, blk_grown h.rs.blk hg (hno g C.bg)⟩
  have hb : W2.heap[gn]? = _ := blk_grown h.blk hg (hno gn C.bgn)
  refine ⟨⟨hs.bel.setCell C.lon _, hs.lo, blk_far hs.blk C.ggn _⟩, hk2.setCell (p := ⟨gn, 1, none⟩) (.inl (.inr (.inr (.inr rfl)))) _, ?_, ?_, blk_put hb 1 _ rfl, ?_, ?_⟩
  · exact (h.mP.same (hg.block mp h.mP.lt (fun e => hno mp C.bmp e))).same (setFar _ _ _ _ _ (Ne.symm C.gnp))
  · exact (h.mK.same (hg.block mk h.mK.lt (fun e => hno mk C.bmk e))).same (setFar _ _ _ _ _ (Ne.symm C.gnk))
  · exact Kd.R_mono (Kd.R_far (p := ⟨gn, 1, none⟩) (Kd.R_bound hr) (fun k hk => by have := hk.2.1; have := C.bgn; simp only; omega) _) (fun _ _ => trivial)
  · have hn : (Value.slice A2 ([] : List S27).length c2).ownBlock = none ∨ (Value.slice A2 ([] : List S27).length c2).ownBlock ≠ (Value.slice A1 ps.length c1).ownBlock := by
      obtain ⟨i1, o1⟩ := Kd.R_own h.rk
      obtain ⟨i2, o2⟩ := Kd.R_own h.rp
      exact own_type_ne o1 o2 (by decide)
    have hr2 := R_nil_grown h.rk hg hn
    exact Kd.R_mono (Kd.R_far (p := ⟨gn, 1, none⟩) (Kd.R_bound hr2) (fun k hk => by have := hk.2.1; have := C.bgn; simp only; omega) _) (fun _ _ => trivial)
theorem NdS.addK (h : NdS w0 wL W g gn mp mk sb st i s hp hk A1 c1 ps A2 c2 ks) (C : NdC w0 wL g gn g6 m mp mk) {x : S27} {A : Option Addr} {c : Nat}
    (hr : Kd.R k27 27 W2 wL.heap.size (fun _ => True) (.slice A (ks ++ [x]).length c) (ks ++ [x])) (hg : W.grownBy W2 (Value.slice A2 ks.length c2).ownBlock) :
    NdS w0 wL (W2.setCell ⟨gn, 2, none⟩ (.slice A (ks ++ [x]).length c)) g gn mp mk sb st i s hp hk A1 c1 ps A c (ks ++ [x]) := by
  have hno : ∀ k, k < wL.heap.size → some k ≠ (Value.slice A2 ks.length c2).ownBlock := fun k hk e => by have := h.ownK k e.symm; omega
  have hk2 : Kept wL W2 (fun k => k = g ∨ k = mp ∨ k = mk ∨ k = gn) := Kept.of_grown hg h.kept (fun k e => .inr (h.ownK k e))
  have hs : RdS w0 W2 g sb st i := ⟨h.rs.bel.grown hg h.rs.bel.size (fun k e => by have := h.ownK k e; have := C.lon; have := C.bgn; omega), h.rs.lo, blk_grown h.rs.blk hg (hno g C.bg)⟩
  have hb : W2.heap[gn]? = _ := blk_grown h.blk hg (hno gn C.bgn)
  refine ⟨⟨hs.bel.setCell C.lon _, hs.lo, blk_far hs.blk C.ggn _⟩, hk2.setCell (p := ⟨gn, 2, none⟩) (.inl (.inr (.inr (.inr rfl)))) _, ?_, ?_, blk_put hb 2 _ rfl, ?_, ?_⟩
  · exact (h.mP.same (hg.block mp h.mP.lt (fun e => hno mp C.bmp e))).same (setFar _ _ _ _ _ (Ne.symm C.gnp))
  · exact (h.mK.same (hg.block mk h.mK.lt (fun e => hno mk C.bmk e))).same (setFar _ _ _ _ _ (Ne.symm C.gnk))
  · have hr2 := Kd.R_over h.rp h.rk (by decide) hg
    exact Kd.R_mono (Kd.R_far (p := ⟨gn, 2, none⟩) (Kd.R_bound hr2) (fun k hk => by have := hk.2.1; have := C.bgn; simp only; omega) _) (fun _ _ => trivial)
  · exact Kd.R_mono (Kd.R_far (p := ⟨gn, 2, none⟩) (Kd.R_bound hr) (fun k hk => by have := hk.2.1; have := C.bgn; simp only; omega) _) (fun _ _ => trivial)
end
end Go.Proofs.Ytkopmkinlanhoaa.PE

namespace Go.Proofs.Ytkopmkinlanhoaa.PE
open Go.RowKit Go.Proofs.YtkopmkinlanhoaaW.PrintWords Go.Proofs.YtkopmkinlanhoaaW.PrintLast Go.Proofs.YtkopmkinlanhoaaW.PrintMore
attribute [local go_sem] max2_int min2_int max_two min_two max_three min_three max_four min_four
set_option linter.unusedVariables false
set_option linter.unusedSimpArgs false
theorem info_prop : (Try.prog.info? 63).map (fun i => (i.zero, i.size, i.bytes)) = some (some (.agg #[.string ⟨#[]⟩, .slice none 0 0]), 2, 40) := by kernel_rfl
theorem info_node : (Try.prog.info? 27).map (fun i => (i.zero, i.size, i.bytes)) = some (some (.agg #[.string ⟨#[]⟩, .slice none 0 0, .slice none 0 0]), 3, 64) := by kernel_rfl
theorem R_made {α : Type} {d : Kd α} {e : Nat} {W1 W2 : World} {B b : Nat} {v : Value} {l : List α} (h : d.R e W1 B (fun _ => True) v l) (hb : Below W1.heap.size W1 W2) (hle : b ≤ B) : d.R e W2 b (fun k => B ≤ k) v l := Kd.R_lower (Kd.R_mono (Kd.R_bound (Kd.R_below h hb)) (fun _ hk => hk.2.1)) hle
theorem NdS.err {w0 W wL W2 : World} {g gn m mp mk : Nat} {sb st : Value} {i : Int} {s nm : ByteArray} {hp hk hs : List ByteArray} {A1 A2 : Option Addr} {c1 c2 : Nat} {ps : List S63} {ks : List S27} {e : Int} (h : NdS w0 wL W2 g gn mp mk sb st i s hp hk A1 c1 ps A2 c2 ks) (hk0 : Kept W wL (fun k => k = g ∨ k = m)) (h1 : W.heap.size ≤ gn) (h2 : W.heap.size ≤ mp) (h3 : W.heap.size ≤ mk) (he : e ≠ 0) : OpR w0 W W2 g m sb st i e hs nm :=
  ⟨h.rs, hk0.then_ h.kept (fun k hk => by rcases hk with e | e | e | e; exact .inl (.inl e); exact .inr (by omega); exact .inr (by omega); exact .inr (by omega)), fun h0 => absurd h0 he⟩
theorem OpR.trans_ {w0 W wL W1 W2 : World} {g gn m mp mk mo : Nat} {sb st : Value} {i q : Int} {s nm nm2 : ByteArray} {hp hk hs hq : List ByteArray} {A1 A2 : Option Addr} {c1 c2 : Nat} {ps : List S63} {ks : List S27} {e : Int} (h : NdS w0 wL W1 g gn mp mk sb st i s hp hk A1 c1 ps A2 c2 ks) (ho : OpR w0 W1 W2 g mo sb st q e hq nm2) (hmo : W.heap.size ≤ mo) (hk0 : Kept W wL (fun k => k = g ∨ k = m)) (h1 : W.heap.size ≤ gn) (h2 : W.heap.size ≤ mp) (h3 : W.heap.size ≤ mk) (he : e ≠ 0) : OpR w0 W W2 g m sb st q e hs nm :=
  ⟨ho.st, (hk0.then_ h.kept (fun k hk => by rcases hk with e | e | e | e; exact .inl (.inl e); exact .inr (by omega); exact .inr (by omega); exact .inr (by omega))).then_ ho.kept (fun k hk => by rcases hk with e | e; exact .inl (.inl e); exact .inr (by omega)), fun h0 => absurd h0 he⟩
theorem NdS.ok {w0 W wL W2 : World} {g gn g6 m mp mk : Nat} {sb st : Value} {i : Int} {s : ByteArray} {hp hk hs : List ByteArray} {A1 A2 : Option Addr} {c1 c2 : Nat} {ps : List S63} {ks : List S27} (h : NdS w0 wL W2 g gn mp mk sb st i s hp hk A1 c1 ps A2 c2 ks) (C : NdC w0 wL g gn g6 m mp mk) (hk0 : Kept W wL (fun k => k = g ∨ k = m)) (h1 : W.heap.size ≤ gn) (h2 : W.heap.size ≤ mp) (h3 : W.heap.size ≤ mk) (hM : MapS wL m (hs ++ [s])) : OpR w0 W W2 g m sb st i 0 hs s :=
  ⟨h.rs, hk0.then_ h.kept (fun k hk => by rcases hk with e | e | e | e; exact .inl (.inl e); exact .inr (by omega); exact .inr (by omega); exact .inr (by omega)), fun _ => hM.kept h.kept (fun e => by rcases e with e | e | e | e; exact C.mm.1 e; exact C.mm.2.2.1 e; exact C.mm.2.2.2 e; exact C.mm.2.1 e)⟩
theorem R_out3 {α : Type} {d : Kd α} {e : Nat} {W2 : World} {B b : Nat} {v : Value} {l : List α} (h : d.R e W2 b (fun _ => True) v l) (hB : B < b) (u0 u1 u2 : Value) : d.R e (((W2.setCell ⟨B, 0, none⟩ u0).setCell ⟨B, 1, none⟩ u1).setCell ⟨B, 2, none⟩ u2) b (fun _ => True) v l := by
  have one : ∀ {W3 : World} (j : Nat) (u : Value), d.R e W3 b (fun _ => True) v l → d.R e (W3.setCell ⟨B, j, none⟩ u) b (fun _ => True) v l := fun j u h => Kd.R_mono (Kd.R_far (p := ⟨B, j, none⟩) (Kd.R_bound h) (fun k hk => by have := hk.2.1; simp only; omega) u) (fun _ _ => trivial)
  exact one 2 u2 (one 1 u1 (one 0 u0 h))
attribute [local irreducible] Go.Calls in
set_option maxRecDepth 100000 in
set_option maxHeartbeats 8000000 in
theorem reader_node.calls (ab : Addr) (cb : Nat) (lb : List Int) (At : Option Addr) (ct : Nat) (lt : List Int) (g : Nat) (w0 : World) (hC : Aside0 (Kd.C (Kd.int .u8) w0 (some ab) lb.length lb)) (hcb : Aside0 (lb.length ≤ cb)) (hCt : Aside0 (Kd.C (Kd.int .u8) w0 At lt.length lt)) (hct : Aside0 (lt.length ≤ ct)) (k : Nat) :
    ∀ (at_ : Int) (hs : List ByteArray) (d : Int) (m : Nat) (W : World) (x1 : S27) (e1 q1 : Int) (hS : RdS w0 W g (.slice (some ab) lb.length cb) (.slice At lt.length ct) at_) (hD : MapS W m hs) (hm : w0.heap.size ≤ m) (hne : g ≠ m) (h : nodeF k lb lt at_ hs d = some (x1, e1, q1)),
    Calls Try.prog 44 #[.pointer (some ⟨g, 0, none⟩), .map (some m), .int .i64 d] W fun e w' => ∃ v1 v2 : Value, e = .returned (.tuple #[.agg #[.string x1.f0, v1, v2], .int .i64 e1]) ∧ OpR w0 W w' g m (.slice (some ab) lb.length cb) (.slice At lt.length ct) q1 e1 hs x1.f0 ∧ Kd.R k63 63 w' W.heap.size (fun _ => True) v1 x1.f1 ∧ Kd.R k27 27 w' W.heap.size (fun _ => True) v2 x1.f2 := by
  induction k using Nat.strongRecOn with
  | ind k ih =>
  intro at_ hs d m W x1 e1 q1 hS hD hm hne h
  cases k with
  | zero => simp [nodeF] at h
  | succ k =>
  rw [nodeF] at h
  obtain ⟨⟨s, e0, q0⟩, ho, h⟩ := Option.bind_eq_some_iff.mp h
  simp only at h
  have IH := Aside0.mk ih
  have HS := Aside0.mk hS
  have HLTG := Aside0.mk (blk_lt hS.blk)
  have HLTM := Aside0.mk hD.lt
  have HLOM := Aside0.mk hm
  have HNE := Aside0.mk hne
  have hS1 := hS.below (below_alloc (Below.refl W.heap.size W) (.cells #[.string ⟨#[]⟩, .slice none 0 0, .slice none 0 0] 27))
  have hD1 := hD.below (below_alloc (Below.refl W.heap.size W) (.cells #[.string ⟨#[]⟩, .slice none 0 0, .slice none 0 0] 27))
  have HO := Aside0.mk (reader_open.calls k ab cb lb (.slice At lt.length ct) at_ hs d g m w0 _ s e0 q0 hC.out hcb.out hS1 hD1 hm hne ho)
  have BN := Aside0.mk (blk_new W (.cells #[.string ⟨#[]⟩, .slice none 0 0, .slice none 0 0] 27 (0, 0)))
  clear ih hS hD hm hne ho hS1 hD1
  by_cases he : e0 = 0
  · subst he
    rw [if_pos rfl] at h
    have H := Aside0.mk h
    clear h
    have hmk : ∀ W : World, (Instr.makeMap 94 none).run Try.prog W = .ok (.map (some W.heap.size)) (W.alloc (.map #[] 0)) := fun W => by kernel_rfl
    go_enter Try.func44, Try.ntmps44
    go_wp2_with (go_at_call 70; refine HO.out.mono ?_; rintro e w1 ⟨rfl, hx⟩; have HX := Aside0.mk hx; have B1 := Aside0.mk (blk_kept BN.out hx.kept (fun e => by have := HLTG.out; have := HLTM.out; omega)); have hsz := Nat.lt_of_lt_of_le (by simp : W.heap.size < (W.alloc (.cells #[.string ⟨#[]⟩, .slice none 0 0, .slice none 0 0] 27)).heap.size) hx.kept.1; clear hx)
    have hsz2 : W.heap.size < w1.heap.size := hsz
    obtain ⟨wL, hwL⟩ : ∃ wL, wL = (((w1.alloc (.cells #[.string s, .slice none 0 0, .slice none 0 0] 27)).alloc (.map #[] 0)).alloc (.map #[] 0)) := ⟨_, rfl⟩
    have hL : wL.heap.size = w1.heap.size + 1 + 1 + 1 := by rw [hwL]; simp
    have hb1 : Below w1.heap.size w1 wL := by rw [hwL]; exact below_alloc (below_alloc (below_alloc (Below.refl _ _) _) _) _
    have hlm := HLTM.out
    have hlg := HLTG.out
    have hlo := HLOM.out
    have hbs := HS.out.bel.size
    have hne := HNE.out
    have hNC : NdC w0 wL g w1.heap.size W.heap.size m (w1.heap.size + 1) (w1.heap.size + 1 + 1) :=
      ⟨by omega, by omega, by omega, by omega, by omega, by omega, by omega, by omega, by omega, by omega, by omega, by omega, by omega, by omega, by omega, ⟨by omega, by omega, by omega, by omega⟩, ⟨by omega, by omega, by omega, by omega⟩⟩
    have hgn : wL.heap[w1.heap.size]? = some (.cells #[.string s, .slice none 0 0, .slice none 0 0] 27 (0, 0)) := by rw [hwL]; exact blk_alloc (blk_alloc (blk_new _ _) _) _
    have hmp : MapS wL (w1.heap.size + 1) [] := by
      have q := MapS.made (w1.alloc (.cells #[.string s, .slice none 0 0, .slice none 0 0] 27))
      rw [show (w1.alloc (.cells #[.string s, .slice none 0 0, .slice none 0 0] 27)).heap.size = w1.heap.size + 1 by simp] at q
      rw [hwL]
      exact q.below (below_alloc (Below.refl _ _) _)
    have hmk2 : MapS wL (w1.heap.size + 1 + 1) [] := by
      have q := MapS.made ((w1.alloc (.cells #[.string s, .slice none 0 0, .slice none 0 0] 27)).alloc (.map #[] 0))
      rw [show ((w1.alloc (.cells #[.string s, .slice none 0 0, .slice none 0 0] 27)).alloc (.map #[] 0)).heap.size = w1.heap.size + 1 + 1 by simp] at q
      rw [hwL]
      exact q
    have hst0 : NdS w0 wL wL g w1.heap.size (w1.heap.size + 1) (w1.heap.size + 1 + 1) (.slice (some ab) lb.length cb) (.slice At lt.length ct) q0 s (([] : List S63).map (·.f0)) (([] : List S27).map (·.f0)) none 0 [] none 0 [] :=
      ⟨HX.out.st.below hb1, Kept.refl _ _, hmp, hmk2, hgn, Kd.R_nil _ _ _ _ _, Kd.R_nil _ _ _ _ _⟩
    have hmm : MapS wL m (hs ++ [s]) := (HX.out.map rfl).below hb1
    have hk0 : Kept W wL (fun k => k = g ∨ k = m) := ((((Kept.refl W _).alloc _).then_ HX.out.kept (fun _ hk => .inl hk))).below hb1
    have hb6 : wL.heap[W.heap.size]? = some (.cells #[.string ⟨#[]⟩, .slice none 0 0, .slice none 0 0] 27 (0, 0)) := blk_below B1.out hb1
    have NC := Aside0.mk hNC
    have HST := Aside0.mk hst0
    have HMM := Aside0.mk hmm
    have HK0 := Aside0.mk hk0
    have B6 := Aside0.mk hb6
    rw [← hwL]
    clear hNC hst0 hmm hk0 hb6 hgn hmp hmk2 hb1 hL hmk HX BN HO B1 hwL hlm hlg hlo hbs hne hsz
    generalize w1.heap.size = gn at NC HST hsz2 ⊢
    have hWg : W.heap.size < gn := hsz2
    have NC6 := Aside0.mk (show ¬ (W.heap.size = g ∨ W.heap.size = gn + 1 ∨ W.heap.size = gn + 1 + 1 ∨ W.heap.size = gn) from fun e => by have := NC.out.six; omega)
    clear hsz2
    go_loopg [13] k (fun kq v13 w' => ∃ (i : Int) (A1 : Option Addr) (c1 : Nat) (ps : List S63) (A2 : Option Addr) (c2 : Nat) (ks : List S27), Aside0 (nodeL kq lb lt i s d ps ks = some (x1, e1, q1)) ∧ Aside0 (kq ≤ k) ∧ Aside0 (NdS w0 wL w' g gn (gn + 1) (gn + 1 + 1) (.slice (some ab) lb.length cb) (.slice At lt.length ct) i s (ps.map (·.f0)) (ks.map (·.f0)) A1 c1 ps A2 c2 ks))
    case atStart => exact ⟨q0, none, 0, [], none, 0, [], H, ⟨Nat.le_refl _⟩, HST⟩
    case round =>
      clear H HST
      obtain ⟨i, A1, c1, ps, A2, c2, ks, HA, HKK, HN⟩ := hrel
      cases gk with
      | zero => exact absurd HA.out (by simp [nodeL])
      | succ k1 =>
        have h := HA.out
        rw [nodeL] at h
        clear HA
        obtain ⟨⟨tv, tb, q⟩, ht, h⟩ := Option.bind_eq_some_iff.mp h
        simp only at h
        have HTK := Aside0.mk ht
        clear ht
        cases tb with
        | false =>
          rw [if_neg (by decide)] at h
          obtain ⟨rfl, rfl, rfl⟩ : z27 = x1 ∧ (4 : Int) = e1 ∧ q = q1 := by simpa using h
          clear h
          go_wp2_with (go_at_call 43; refine (reader_token.calls k1 (some ab) cb lb (.slice At lt.length ct) i g w0 _ _ _ _ hC.out hcb.out HN.out.rs HTK.out).mono ?_; rintro e w2 ⟨rfl, hm⟩; have HN := Aside0.mk (HN.out.moved NC.out hm); clear hm; have bz0 := HN.out.blk; have n0 : w2.cell? ⟨gn, 0, none⟩ = some (.string s) := (blk_cell bz0 0).trans rfl; have m0_ : w2.frozen? ⟨gn, 0, none⟩ = false := blk_frozen bz0 0; have n1 : w2.cell? ⟨gn, 1, none⟩ = some (.slice A1 ps.length c1) := (blk_cell bz0 1).trans rfl; have m1_ : w2.frozen? ⟨gn, 1, none⟩ = false := blk_frozen bz0 1; have n2 : w2.cell? ⟨gn, 2, none⟩ = some (.slice A2 ks.length c2) := (blk_cell bz0 2).trans rfl; have m2_ : w2.frozen? ⟨gn, 2, none⟩ = false := blk_frozen bz0 2; have rz0 := blk_kept B6.out HN.out.kept NC6.out; have z0 : w2.cell? ⟨W.heap.size, 0, none⟩ = some (.string ⟨#[]⟩) := (blk_cell rz0 0).trans rfl; have y0_ : w2.frozen? ⟨W.heap.size, 0, none⟩ = false := blk_frozen rz0 0; have z1 : w2.cell? ⟨W.heap.size, 1, none⟩ = some (.slice none 0 0) := (blk_cell rz0 1).trans rfl; have y1_ : w2.frozen? ⟨W.heap.size, 1, none⟩ = false := blk_frozen rz0 1; have z2 : w2.cell? ⟨W.heap.size, 2, none⟩ = some (.slice none 0 0) := (blk_cell rz0 2).trans rfl; have y2_ : w2.frozen? ⟨W.heap.size, 2, none⟩ = false := blk_frozen rz0 2; have BZ := Aside0.mk rz0; clear bz0 rz0; have sz0 : W.heap.size < w2.heap.size := blk_lt BZ.out; have sz1 : gn < w2.heap.size := blk_lt HN.out.blk)
          refine bodyPost_ret (results_ct rfl _ _ W.heap.size 27 #[.string ⟨#[]⟩, .slice none 0 0, .slice none 0 0] (0, 0) _ rfl (by refine blk_put (cs := #[.string ⟨#[]⟩, .slice none 0 0, .slice none 0 0]) ?_ 2 _ rfl; refine blk_put (cs := #[.string ⟨#[]⟩, .slice none 0 0, .slice none 0 0]) ?_ 1 _ rfl; refine blk_put (cs := #[.string ⟨#[]⟩, .slice none 0 0, .slice none 0 0]) ?_ 0 _ rfl; exact BZ.out) Try.underlying27 rfl (by kernel_rfl)) rfl ⟨.slice none 0 0, .slice none 0 0, rfl, ?_, Kd.R_nil _ _ _ _ _, Kd.R_nil _ _ _ _ _⟩
          exact OpR.outer (OpR.outer (OpR.outer (HN.out.err HK0.out (Nat.le_of_lt hWg) (by omega) (by omega) (by decide)) HLTG.out HLTM.out HS.out.bel.size 0 _) HLTG.out HLTM.out HS.out.bel.size 1 _) HLTG.out HLTM.out HS.out.bel.size 2 _
        | true =>
          rw [if_pos rfl] at h
          by_cases t9 : tv = 9
          · subst t9
            rw [if_pos rfl] at h
            obtain ⟨rfl, rfl, rfl⟩ : z27 = x1 ∧ (4 : Int) = e1 ∧ q = q1 := by simpa using h
            clear h
            go_wp2_with (go_at_call 43; refine (reader_token.calls k1 (some ab) cb lb (.slice At lt.length ct) i g w0 _ _ _ _ hC.out hcb.out HN.out.rs HTK.out).mono ?_; rintro e w2 ⟨rfl, hm⟩; have HN := Aside0.mk (HN.out.moved NC.out hm); clear hm; have bz0 := HN.out.blk; have n0 : w2.cell? ⟨gn, 0, none⟩ = some (.string s) := (blk_cell bz0 0).trans rfl; have m0_ : w2.frozen? ⟨gn, 0, none⟩ = false := blk_frozen bz0 0; have n1 : w2.cell? ⟨gn, 1, none⟩ = some (.slice A1 ps.length c1) := (blk_cell bz0 1).trans rfl; have m1_ : w2.frozen? ⟨gn, 1, none⟩ = false := blk_frozen bz0 1; have n2 : w2.cell? ⟨gn, 2, none⟩ = some (.slice A2 ks.length c2) := (blk_cell bz0 2).trans rfl; have m2_ : w2.frozen? ⟨gn, 2, none⟩ = false := blk_frozen bz0 2; have rz0 := blk_kept B6.out HN.out.kept NC6.out; have z0 : w2.cell? ⟨W.heap.size, 0, none⟩ = some (.string ⟨#[]⟩) := (blk_cell rz0 0).trans rfl; have y0_ : w2.frozen? ⟨W.heap.size, 0, none⟩ = false := blk_frozen rz0 0; have z1 : w2.cell? ⟨W.heap.size, 1, none⟩ = some (.slice none 0 0) := (blk_cell rz0 1).trans rfl; have y1_ : w2.frozen? ⟨W.heap.size, 1, none⟩ = false := blk_frozen rz0 1; have z2 : w2.cell? ⟨W.heap.size, 2, none⟩ = some (.slice none 0 0) := (blk_cell rz0 2).trans rfl; have y2_ : w2.frozen? ⟨W.heap.size, 2, none⟩ = false := blk_frozen rz0 2; have BZ := Aside0.mk rz0; clear bz0 rz0; have sz0 : W.heap.size < w2.heap.size := blk_lt BZ.out; have sz1 : gn < w2.heap.size := blk_lt HN.out.blk)
            refine bodyPost_ret (results_ct rfl _ _ W.heap.size 27 #[.string ⟨#[]⟩, .slice none 0 0, .slice none 0 0] (0, 0) _ rfl (by refine blk_put (cs := #[.string ⟨#[]⟩, .slice none 0 0, .slice none 0 0]) ?_ 2 _ rfl; refine blk_put (cs := #[.string ⟨#[]⟩, .slice none 0 0, .slice none 0 0]) ?_ 1 _ rfl; refine blk_put (cs := #[.string ⟨#[]⟩, .slice none 0 0, .slice none 0 0]) ?_ 0 _ rfl; exact BZ.out) Try.underlying27 rfl (by kernel_rfl)) rfl ⟨.slice none 0 0, .slice none 0 0, rfl, ?_, Kd.R_nil _ _ _ _ _, Kd.R_nil _ _ _ _ _⟩
            exact OpR.outer (OpR.outer (OpR.outer (HN.out.err HK0.out (Nat.le_of_lt hWg) (by omega) (by omega) (by decide)) HLTG.out HLTM.out HS.out.bel.size 0 _) HLTG.out HLTM.out HS.out.bel.size 1 _) HLTG.out HLTM.out HS.out.bel.size 2 _
          · rw [if_neg t9] at h
            have t9b : (tv == 9) = false := beq_eq_false_iff_ne.mpr t9
            clear t9
            by_cases t3 : tv = 3
            · subst t3
              rw [if_pos rfl] at h
              by_cases hk0_ : 0 < ks.length
              · rw [if_pos hk0_] at h
                obtain ⟨rfl, rfl, rfl⟩ : z27 = x1 ∧ (4 : Int) = e1 ∧ q = q1 := by simpa using h
                have hkb1 : decide (0 < ks.length) = true := decide_eq_true hk0_
                have hkb2 : decide ((0 : Int) < (ks.length : Int)) = true := decide_eq_true (by omega)
                clear h hk0_
                go_wp2_with (go_at_call 43; refine (reader_token.calls k1 (some ab) cb lb (.slice At lt.length ct) i g w0 _ _ _ _ hC.out hcb.out HN.out.rs HTK.out).mono ?_; rintro e w2 ⟨rfl, hm⟩; have HN := Aside0.mk (HN.out.moved NC.out hm); clear hm; have bz0 := HN.out.blk; have n0 : w2.cell? ⟨gn, 0, none⟩ = some (.string s) := (blk_cell bz0 0).trans rfl; have m0_ : w2.frozen? ⟨gn, 0, none⟩ = false := blk_frozen bz0 0; have n1 : w2.cell? ⟨gn, 1, none⟩ = some (.slice A1 ps.length c1) := (blk_cell bz0 1).trans rfl; have m1_ : w2.frozen? ⟨gn, 1, none⟩ = false := blk_frozen bz0 1; have n2 : w2.cell? ⟨gn, 2, none⟩ = some (.slice A2 ks.length c2) := (blk_cell bz0 2).trans rfl; have m2_ : w2.frozen? ⟨gn, 2, none⟩ = false := blk_frozen bz0 2; have rz0 := blk_kept B6.out HN.out.kept NC6.out; have z0 : w2.cell? ⟨W.heap.size, 0, none⟩ = some (.string ⟨#[]⟩) := (blk_cell rz0 0).trans rfl; have y0_ : w2.frozen? ⟨W.heap.size, 0, none⟩ = false := blk_frozen rz0 0; have z1 : w2.cell? ⟨W.heap.size, 1, none⟩ = some (.slice none 0 0) := (blk_cell rz0 1).trans rfl; have y1_ : w2.frozen? ⟨W.heap.size, 1, none⟩ = false := blk_frozen rz0 1; have z2 : w2.cell? ⟨W.heap.size, 2, none⟩ = some (.slice none 0 0) := (blk_cell rz0 2).trans rfl; have y2_ : w2.frozen? ⟨W.heap.size, 2, none⟩ = false := blk_frozen rz0 2; have BZ := Aside0.mk rz0; clear bz0 rz0; have sz0 : W.heap.size < w2.heap.size := blk_lt BZ.out; have sz1 : gn < w2.heap.size := blk_lt HN.out.blk)
                refine bodyPost_ret (results_ct rfl _ _ W.heap.size 27 #[.string ⟨#[]⟩, .slice none 0 0, .slice none 0 0] (0, 0) _ rfl (by refine blk_put (cs := #[.string ⟨#[]⟩, .slice none 0 0, .slice none 0 0]) ?_ 2 _ rfl; refine blk_put (cs := #[.string ⟨#[]⟩, .slice none 0 0, .slice none 0 0]) ?_ 1 _ rfl; refine blk_put (cs := #[.string ⟨#[]⟩, .slice none 0 0, .slice none 0 0]) ?_ 0 _ rfl; exact BZ.out) Try.underlying27 rfl (by kernel_rfl)) rfl ⟨.slice none 0 0, .slice none 0 0, rfl, ?_, Kd.R_nil _ _ _ _ _, Kd.R_nil _ _ _ _ _⟩
                exact OpR.outer (OpR.outer (OpR.outer (HN.out.err HK0.out (Nat.le_of_lt hWg) (by omega) (by omega) (by decide)) HLTG.out HLTM.out HS.out.bel.size 0 _) HLTG.out HLTM.out HS.out.bel.size 1 _) HLTG.out HLTM.out HS.out.bel.size 2 _
              · rw [if_neg hk0_] at h
                obtain rfl : ks = [] := List.eq_nil_of_length_eq_zero (by omega)
                clear hk0_
                obtain ⟨⟨p, pe, pq⟩, hp, h⟩ := Option.bind_eq_some_iff.mp h
                simp only at h
                have HP := Aside0.mk hp
                clear hp
                by_cases hpe : pe = 0
                · subst hpe
                  rw [if_pos rfl] at h
                  by_cases hl : ps.length + 1 < 1099511627776
                  case neg => rw [if_neg hl] at h; cases h
                  rw [if_pos hl] at h
                  obtain ⟨y, hy⟩ : ∃ y, y = ps ++ [p] := ⟨_, rfl⟩
                  have HH := Aside0.mk (hy ▸ h)
                  have Ny := Aside0.mk hy
                  have HLIM := Aside0.mk hl
                  clear h hy hl
                  go_wp2_with (first | (go_at_call 43; refine (reader_token.calls k1 (some ab) cb lb (.slice At lt.length ct) i g w0 _ _ _ _ hC.out hcb.out HN.out.rs HTK.out).mono ?_; rintro e w2 ⟨rfl, hm⟩; have HN := Aside0.mk (HN.out.moved NC.out hm); clear hm; have bz0 := HN.out.blk; have n0 : w2.cell? ⟨gn, 0, none⟩ = some (.string s) := (blk_cell bz0 0).trans rfl; have m0_ : w2.frozen? ⟨gn, 0, none⟩ = false := blk_frozen bz0 0; have n1 : w2.cell? ⟨gn, 1, none⟩ = some (.slice A1 ps.length c1) := (blk_cell bz0 1).trans rfl; have m1_ : w2.frozen? ⟨gn, 1, none⟩ = false := blk_frozen bz0 1; have n2 : w2.cell? ⟨gn, 2, none⟩ = some (.slice A2 0 c2) := (blk_cell bz0 2).trans rfl; have m2_ : w2.frozen? ⟨gn, 2, none⟩ = false := blk_frozen bz0 2; have rz0 := blk_kept B6.out HN.out.kept NC6.out; have z0 : w2.cell? ⟨W.heap.size, 0, none⟩ = some (.string ⟨#[]⟩) := (blk_cell rz0 0).trans rfl; have y0_ : w2.frozen? ⟨W.heap.size, 0, none⟩ = false := blk_frozen rz0 0; have z1 : w2.cell? ⟨W.heap.size, 1, none⟩ = some (.slice none 0 0) := (blk_cell rz0 1).trans rfl; have y1_ : w2.frozen? ⟨W.heap.size, 1, none⟩ = false := blk_frozen rz0 1; have z2 : w2.cell? ⟨W.heap.size, 2, none⟩ = some (.slice none 0 0) := (blk_cell rz0 2).trans rfl; have y2_ : w2.frozen? ⟨W.heap.size, 2, none⟩ = false := blk_frozen rz0 2; have BZ := Aside0.mk rz0; clear bz0 rz0; have sz0 : W.heap.size < w2.heap.size := blk_lt BZ.out; have sz1 : gn < w2.heap.size := blk_lt HN.out.blk) | (go_at_call 71; refine (reader_prop.calls k1 ab cb lb At ct lt q (ps.map (·.f0)) g (gn + 1) w0 _ _ _ _ hC.out hcb.out hCt.out hct.out HN.out.rs HN.out.mP NC.out.lop NC.out.ggp HP.out).mono ?_; rintro e w3 ⟨vp, rfl, hop, hrp⟩; obtain ⟨Ap, cp, rfl⟩ := Kd.R_slice hrp; have HLP := Aside0.mk (Kd.R_lt HN.out.rp); have HW2 := Aside0.mk HN.out.kept.1; have HN := Aside0.mk (HN.out.prop NC.out hop); have HRP := Aside0.mk hrp; clear hop hrp; have bz0 := HN.out.blk; have n0 : w3.cell? ⟨gn, 0, none⟩ = some (.string s) := (blk_cell bz0 0).trans rfl; have m0_ : w3.frozen? ⟨gn, 0, none⟩ = false := blk_frozen bz0 0; have n1 : w3.cell? ⟨gn, 1, none⟩ = some (.slice A1 ps.length c1) := (blk_cell bz0 1).trans rfl; have m1_ : w3.frozen? ⟨gn, 1, none⟩ = false := blk_frozen bz0 1; have n2 : w3.cell? ⟨gn, 2, none⟩ = some (.slice A2 0 c2) := (blk_cell bz0 2).trans rfl; have m2_ : w3.frozen? ⟨gn, 2, none⟩ = false := blk_frozen bz0 2; have rz0 := blk_kept B6.out HN.out.kept NC6.out; have z0 : w3.cell? ⟨W.heap.size, 0, none⟩ = some (.string ⟨#[]⟩) := (blk_cell rz0 0).trans rfl; have y0_ : w3.frozen? ⟨W.heap.size, 0, none⟩ = false := blk_frozen rz0 0; have z1 : w3.cell? ⟨W.heap.size, 1, none⟩ = some (.slice none 0 0) := (blk_cell rz0 1).trans rfl; have y1_ : w3.frozen? ⟨W.heap.size, 1, none⟩ = false := blk_frozen rz0 1; have z2 : w3.cell? ⟨W.heap.size, 2, none⟩ = some (.slice none 0 0) := (blk_cell rz0 2).trans rfl; have y2_ : w3.frozen? ⟨W.heap.size, 2, none⟩ = false := blk_frozen rz0 2; have BZ := Aside0.mk rz0; clear bz0 rz0; have sz0 : W.heap.size < w3.heap.size := blk_lt BZ.out; have sz1 : gn < w3.heap.size := blk_lt HN.out.blk) | (at_builtin; refine Kd.R_append k63 (w0 := _) wL.heap.size rfl (.tmp 89) (.tmp 91) 24 63 (.agg #[.string ⟨#[]⟩, .slice none 0 0]) 40 rfl Try.underlying24 info_prop rfl (by decide) (by omega) (.slice A1 ps.length c1) ps p [.string p.f0, .slice Ap p.f1.length cp] (fun _ => True) (fun k => w2.heap.size ≤ k) rfl (Eq.trans (b := Value.slice (some (⟨w3.heap.size + 1, 0, none⟩ : Addr)) 1 1) rfl (by simp)) (k63_mkM _ _ _ p (R_made HRP.out (below_alloc (Below.refl _ _) _) HW2.out)) (fun k hk => ⟨trivial, fun e => by have := HLP.out k e.symm; omega⟩) (fun _ _ => trivial) (HN.out.below (below_alloc (Below.refl _ _) _)).rp (Below.refl _ _) (HN.out.below (below_alloc (Below.refl _ _) _)).kept.1 (by have := HLIM.out; omega) ?_; intro v13 w13 ho hb hg hat; rw [← Ny.out] at ho; obtain ⟨An, cn, rfl⟩ := Kd.R_slice ho; have HO13 := Aside0.mk ho; have HG13 := Aside0.mk hg; have HB13 := Aside0.mk (blk_grown (HN.out.below (below_alloc (Below.refl _ _) _)).blk hg (fun e => by have := (HN.out.own gn e.symm); have := NC.out.bgn; omega)); have q1_ : w13.cell? ⟨gn, 1, none⟩ = some (.slice A1 ps.length c1) := (blk_cell HB13.out 1).trans rfl; have q2_ : w13.frozen? ⟨gn, 1, none⟩ = false := blk_frozen HB13.out 1; clear ho hb hg hat))
                  go_roundg k1
                  case measure => omega
                  case rel => exact ⟨pq, An, cn, y, A2, c2, [], HH, ⟨by have := HKK.out; omega⟩, ⟨by
                    have q := (HN.out.below (below_alloc (Below.refl _ _) _)).addP NC.out (by rw [← Ny.out]; exact HO13.out) HG13.out
                    rw [← Ny.out] at q
                    rw [show y.map (·.f0) = ps.map (·.f0) ++ [p.f0] from by rw [Ny.out]; simp]
                    exact q⟩⟩
                · rw [if_neg hpe] at h
                  obtain ⟨rfl, rfl, rfl⟩ : z27 = x1 ∧ pe = e1 ∧ pq = q1 := by simpa using h
                  have hpb : (pe != 0) = true := bne_iff_ne.mpr hpe
                  have HPE := Aside0.mk hpe
                  clear h hpe
                  go_wp2_with (first | (go_at_call 43; refine (reader_token.calls k1 (some ab) cb lb (.slice At lt.length ct) i g w0 _ _ _ _ hC.out hcb.out HN.out.rs HTK.out).mono ?_; rintro e w2 ⟨rfl, hm⟩; have HN := Aside0.mk (HN.out.moved NC.out hm); clear hm; have bz0 := HN.out.blk; have n0 : w2.cell? ⟨gn, 0, none⟩ = some (.string s) := (blk_cell bz0 0).trans rfl; have m0_ : w2.frozen? ⟨gn, 0, none⟩ = false := blk_frozen bz0 0; have n1 : w2.cell? ⟨gn, 1, none⟩ = some (.slice A1 ps.length c1) := (blk_cell bz0 1).trans rfl; have m1_ : w2.frozen? ⟨gn, 1, none⟩ = false := blk_frozen bz0 1; have n2 : w2.cell? ⟨gn, 2, none⟩ = some (.slice A2 0 c2) := (blk_cell bz0 2).trans rfl; have m2_ : w2.frozen? ⟨gn, 2, none⟩ = false := blk_frozen bz0 2; have rz0 := blk_kept B6.out HN.out.kept NC6.out; have z0 : w2.cell? ⟨W.heap.size, 0, none⟩ = some (.string ⟨#[]⟩) := (blk_cell rz0 0).trans rfl; have y0_ : w2.frozen? ⟨W.heap.size, 0, none⟩ = false := blk_frozen rz0 0; have z1 : w2.cell? ⟨W.heap.size, 1, none⟩ = some (.slice none 0 0) := (blk_cell rz0 1).trans rfl; have y1_ : w2.frozen? ⟨W.heap.size, 1, none⟩ = false := blk_frozen rz0 1; have z2 : w2.cell? ⟨W.heap.size, 2, none⟩ = some (.slice none 0 0) := (blk_cell rz0 2).trans rfl; have y2_ : w2.frozen? ⟨W.heap.size, 2, none⟩ = false := blk_frozen rz0 2; have BZ := Aside0.mk rz0; clear bz0 rz0; have sz0 : W.heap.size < w2.heap.size := blk_lt BZ.out; have sz1 : gn < w2.heap.size := blk_lt HN.out.blk) | (go_at_call 71; refine (reader_prop.calls k1 ab cb lb At ct lt q (ps.map (·.f0)) g (gn + 1) w0 _ _ _ _ hC.out hcb.out hCt.out hct.out HN.out.rs HN.out.mP NC.out.lop NC.out.ggp HP.out).mono ?_; rintro e w3 ⟨vp, rfl, hop, hrp⟩; obtain ⟨Ap, cp, rfl⟩ := Kd.R_slice hrp; have HOE := Aside0.mk hop; have rz0 := blk_kept BZ.out hop.kept (fun e => e.elim NC.out.six.1 NC.out.six.2.2.1); have z0 : w3.cell? ⟨W.heap.size, 0, none⟩ = some (.string ⟨#[]⟩) := (blk_cell rz0 0).trans rfl; have y0_ : w3.frozen? ⟨W.heap.size, 0, none⟩ = false := blk_frozen rz0 0; have z1 : w3.cell? ⟨W.heap.size, 1, none⟩ = some (.slice none 0 0) := (blk_cell rz0 1).trans rfl; have y1_ : w3.frozen? ⟨W.heap.size, 1, none⟩ = false := blk_frozen rz0 1; have z2 : w3.cell? ⟨W.heap.size, 2, none⟩ = some (.slice none 0 0) := (blk_cell rz0 2).trans rfl; have y2_ : w3.frozen? ⟨W.heap.size, 2, none⟩ = false := blk_frozen rz0 2; have BZ := Aside0.mk rz0; clear rz0; have sz0 : W.heap.size < w3.heap.size := blk_lt BZ.out; clear hop hrp))
                  refine bodyPost_ret (results_ct rfl _ _ W.heap.size 27 #[.string ⟨#[]⟩, .slice none 0 0, .slice none 0 0] (0, 0) _ rfl (by refine blk_alloc ?_ _; refine blk_put (cs := #[.string ⟨#[]⟩, .slice none 0 0, .slice none 0 0]) ?_ 2 _ rfl; refine blk_put (cs := #[.string ⟨#[]⟩, .slice none 0 0, .slice none 0 0]) ?_ 1 _ rfl; refine blk_put (cs := #[.string ⟨#[]⟩, .slice none 0 0, .slice none 0 0]) ?_ 0 _ rfl; exact BZ.out) Try.underlying27 rfl (by kernel_rfl)) rfl ⟨.slice none 0 0, .slice none 0 0, rfl, ?_, Kd.R_nil _ _ _ _ _, Kd.R_nil _ _ _ _ _⟩
                  exact OpR.below (OpR.outer (OpR.outer (OpR.outer (OpR.trans_ HN.out HOE.out (by omega) HK0.out (Nat.le_of_lt hWg) (by omega) (by omega) HPE.out) HLTG.out HLTM.out HS.out.bel.size 0 _) HLTG.out HLTM.out HS.out.bel.size 1 _) HLTG.out HLTM.out HS.out.bel.size 2 _) (below_alloc (Below.refl _ _) _)
            · rw [if_neg t3] at h
              have t3b : (tv == 3) = false := beq_eq_false_iff_ne.mpr t3
              clear t3
              by_cases t2 : tv = 2
              · subst t2
                rw [if_pos rfl] at h
                obtain ⟨rfl, rfl, rfl⟩ : (⟨s, ps, ks⟩ : S27) = x1 ∧ (0 : Int) = e1 ∧ q = q1 := by simpa using h
                clear h
                go_wp2_with (go_at_call 43; refine (reader_token.calls k1 (some ab) cb lb (.slice At lt.length ct) i g w0 _ _ _ _ hC.out hcb.out HN.out.rs HTK.out).mono ?_; rintro e w2 ⟨rfl, hm⟩; have HN := Aside0.mk (HN.out.moved NC.out hm); clear hm; have bz0 := HN.out.blk; have n0 : w2.cell? ⟨gn, 0, none⟩ = some (.string s) := (blk_cell bz0 0).trans rfl; have m0_ : w2.frozen? ⟨gn, 0, none⟩ = false := blk_frozen bz0 0; have n1 : w2.cell? ⟨gn, 1, none⟩ = some (.slice A1 ps.length c1) := (blk_cell bz0 1).trans rfl; have m1_ : w2.frozen? ⟨gn, 1, none⟩ = false := blk_frozen bz0 1; have n2 : w2.cell? ⟨gn, 2, none⟩ = some (.slice A2 ks.length c2) := (blk_cell bz0 2).trans rfl; have m2_ : w2.frozen? ⟨gn, 2, none⟩ = false := blk_frozen bz0 2; have rz0 := blk_kept B6.out HN.out.kept NC6.out; have z0 : w2.cell? ⟨W.heap.size, 0, none⟩ = some (.string ⟨#[]⟩) := (blk_cell rz0 0).trans rfl; have y0_ : w2.frozen? ⟨W.heap.size, 0, none⟩ = false := blk_frozen rz0 0; have z1 : w2.cell? ⟨W.heap.size, 1, none⟩ = some (.slice none 0 0) := (blk_cell rz0 1).trans rfl; have y1_ : w2.frozen? ⟨W.heap.size, 1, none⟩ = false := blk_frozen rz0 1; have z2 : w2.cell? ⟨W.heap.size, 2, none⟩ = some (.slice none 0 0) := (blk_cell rz0 2).trans rfl; have y2_ : w2.frozen? ⟨W.heap.size, 2, none⟩ = false := blk_frozen rz0 2; have BZ := Aside0.mk rz0; clear bz0 rz0; have sz0 : W.heap.size < w2.heap.size := blk_lt BZ.out; have sz1 : gn < w2.heap.size := blk_lt HN.out.blk)
                refine bodyPost_ret (results_ct rfl _ _ W.heap.size 27 #[.string s, .slice A1 ps.length c1, .slice A2 ks.length c2] (0, 0) _ rfl (by refine blk_put (cs := #[.string s, .slice A1 ps.length c1, .slice none 0 0]) ?_ 2 _ rfl; refine blk_put (cs := #[.string s, .slice none 0 0, .slice none 0 0]) ?_ 1 _ rfl; refine blk_put (cs := #[.string ⟨#[]⟩, .slice none 0 0, .slice none 0 0]) ?_ 0 _ rfl; exact BZ.out) Try.underlying27 rfl (by kernel_rfl)) rfl ⟨.slice A1 ps.length c1, .slice A2 ks.length c2, rfl, ?_, ?_, ?_⟩
                · exact OpR.outer (OpR.outer (OpR.outer (HN.out.ok NC.out HK0.out (Nat.le_of_lt hWg) (by omega) (by omega) HMM.out) HLTG.out HLTM.out HS.out.bel.size 0 _) HLTG.out HLTM.out HS.out.bel.size 1 _) HLTG.out HLTM.out HS.out.bel.size 2 _
                · exact Kd.R_lower (R_out3 HN.out.rp NC.out.b6 _ _ _) HK0.out.1
                · exact Kd.R_lower (R_out3 HN.out.rk NC.out.b6 _ _ _) HK0.out.1
              · rw [if_neg t2] at h
                have t2b : (tv == 2) = false := beq_eq_false_iff_ne.mpr t2
                clear t2
                obtain ⟨⟨x, pe, pq⟩, hp, h⟩ := Option.bind_eq_some_iff.mp h
                simp only at h
                have HP := Aside0.mk hp
                have HKL := Aside0.mk (show k1 < k + 1 by have := HKK.out; omega)
                have hwd := i64_w (d + 1)
                clear hp
                by_cases hpe : pe = 0
                · subst hpe
                  rw [if_pos rfl] at h
                  by_cases hl : ks.length + 1 < 1099511627776
                  case neg => rw [if_neg hl] at h; cases h
                  rw [if_pos hl] at h
                  obtain ⟨y, hy⟩ : ∃ y, y = ks ++ [x] := ⟨_, rfl⟩
                  have HH := Aside0.mk (hy ▸ h)
                  have Ny := Aside0.mk hy
                  have HLIM := Aside0.mk hl
                  clear h hy hl
                  go_wp2_with (first | (go_at_call 43; refine (reader_token.calls k1 (some ab) cb lb (.slice At lt.length ct) i g w0 _ _ _ _ hC.out hcb.out HN.out.rs HTK.out).mono ?_; rintro e w2 ⟨rfl, hm⟩; have HN := Aside0.mk (HN.out.moved NC.out hm); clear hm; have bz0 := HN.out.blk; have n0 : w2.cell? ⟨gn, 0, none⟩ = some (.string s) := (blk_cell bz0 0).trans rfl; have m0_ : w2.frozen? ⟨gn, 0, none⟩ = false := blk_frozen bz0 0; have n1 : w2.cell? ⟨gn, 1, none⟩ = some (.slice A1 ps.length c1) := (blk_cell bz0 1).trans rfl; have m1_ : w2.frozen? ⟨gn, 1, none⟩ = false := blk_frozen bz0 1; have n2 : w2.cell? ⟨gn, 2, none⟩ = some (.slice A2 ks.length c2) := (blk_cell bz0 2).trans rfl; have m2_ : w2.frozen? ⟨gn, 2, none⟩ = false := blk_frozen bz0 2; have rz0 := blk_kept B6.out HN.out.kept NC6.out; have z0 : w2.cell? ⟨W.heap.size, 0, none⟩ = some (.string ⟨#[]⟩) := (blk_cell rz0 0).trans rfl; have y0_ : w2.frozen? ⟨W.heap.size, 0, none⟩ = false := blk_frozen rz0 0; have z1 : w2.cell? ⟨W.heap.size, 1, none⟩ = some (.slice none 0 0) := (blk_cell rz0 1).trans rfl; have y1_ : w2.frozen? ⟨W.heap.size, 1, none⟩ = false := blk_frozen rz0 1; have z2 : w2.cell? ⟨W.heap.size, 2, none⟩ = some (.slice none 0 0) := (blk_cell rz0 2).trans rfl; have y2_ : w2.frozen? ⟨W.heap.size, 2, none⟩ = false := blk_frozen rz0 2; have BZ := Aside0.mk rz0; clear bz0 rz0; have sz0 : W.heap.size < w2.heap.size := blk_lt BZ.out; have sz1 : gn < w2.heap.size := blk_lt HN.out.blk) | (go_at_call 44; refine (IH.out k1 HKL.out q (ks.map (·.f0)) _ (gn + 1 + 1) _ _ _ _ HN.out.rs HN.out.mK NC.out.lok NC.out.ggk HP.out).mono ?_; rintro e w3 ⟨vp, vk, rfl, hop, hrp, hrk⟩; obtain ⟨Ap, cp, rfl⟩ := Kd.R_slice hrp; obtain ⟨Ak, ck, rfl⟩ := Kd.R_slice hrk; have HLP := Aside0.mk (Kd.R_lt HN.out.rk); have HW2 := Aside0.mk HN.out.kept.1; have HN := Aside0.mk (HN.out.kid NC.out hop); have HRP := Aside0.mk hrp; have HRK := Aside0.mk hrk; clear hop hrp hrk; have bz0 := HN.out.blk; have n0 : w3.cell? ⟨gn, 0, none⟩ = some (.string s) := (blk_cell bz0 0).trans rfl; have m0_ : w3.frozen? ⟨gn, 0, none⟩ = false := blk_frozen bz0 0; have n1 : w3.cell? ⟨gn, 1, none⟩ = some (.slice A1 ps.length c1) := (blk_cell bz0 1).trans rfl; have m1_ : w3.frozen? ⟨gn, 1, none⟩ = false := blk_frozen bz0 1; have n2 : w3.cell? ⟨gn, 2, none⟩ = some (.slice A2 ks.length c2) := (blk_cell bz0 2).trans rfl; have m2_ : w3.frozen? ⟨gn, 2, none⟩ = false := blk_frozen bz0 2; have rz0 := blk_kept B6.out HN.out.kept NC6.out; have z0 : w3.cell? ⟨W.heap.size, 0, none⟩ = some (.string ⟨#[]⟩) := (blk_cell rz0 0).trans rfl; have y0_ : w3.frozen? ⟨W.heap.size, 0, none⟩ = false := blk_frozen rz0 0; have z1 : w3.cell? ⟨W.heap.size, 1, none⟩ = some (.slice none 0 0) := (blk_cell rz0 1).trans rfl; have y1_ : w3.frozen? ⟨W.heap.size, 1, none⟩ = false := blk_frozen rz0 1; have z2 : w3.cell? ⟨W.heap.size, 2, none⟩ = some (.slice none 0 0) := (blk_cell rz0 2).trans rfl; have y2_ : w3.frozen? ⟨W.heap.size, 2, none⟩ = false := blk_frozen rz0 2; have BZ := Aside0.mk rz0; clear bz0 rz0; have sz0 : W.heap.size < w3.heap.size := blk_lt BZ.out; have sz1 : gn < w3.heap.size := blk_lt HN.out.blk) | (at_builtin; refine Kd.R_append k27 (w0 := _) wL.heap.size rfl (.tmp 52) (.tmp 54) 25 27 (.agg #[.string ⟨#[]⟩, .slice none 0 0, .slice none 0 0]) 64 rfl Try.underlying25 info_node rfl (by decide) (by omega) (.slice A2 ks.length c2) ks x [.string x.f0, .slice Ap x.f1.length cp, .slice Ak x.f2.length ck] (fun _ => True) (fun k => w2.heap.size ≤ k) rfl (Eq.trans (b := Value.slice (some (⟨w3.heap.size + 1, 0, none⟩ : Addr)) 1 1) rfl (by simp)) (k27_mkM _ _ _ x (R_made HRP.out (below_alloc (Below.refl _ _) _) HW2.out) (R_made HRK.out (below_alloc (Below.refl _ _) _) HW2.out)) (fun k hk => ⟨trivial, fun e => by have := HLP.out k e.symm; omega⟩) (fun _ _ => trivial) (HN.out.below (below_alloc (Below.refl _ _) _)).rk (Below.refl _ _) (HN.out.below (below_alloc (Below.refl _ _) _)).kept.1 (by have := HLIM.out; omega) ?_; intro v13 w13 ho hb hg hat; rw [← Ny.out] at ho; obtain ⟨An, cn, rfl⟩ := Kd.R_slice ho; have HO13 := Aside0.mk ho; have HG13 := Aside0.mk hg; have HB13 := Aside0.mk (blk_grown (HN.out.below (below_alloc (Below.refl _ _) _)).blk hg (fun e => by have := (HN.out.ownK gn e.symm); have := NC.out.bgn; omega)); have q1_ : w13.cell? ⟨gn, 2, none⟩ = some (.slice A2 ks.length c2) := (blk_cell HB13.out 2).trans rfl; have q2_ : w13.frozen? ⟨gn, 2, none⟩ = false := blk_frozen HB13.out 2; clear ho hb hg hat))
                  go_roundg k1
                  case measure => omega
                  case rel => exact ⟨pq, A1, c1, ps, An, cn, y, HH, ⟨by have := HKK.out; omega⟩, ⟨by
                    have q := (HN.out.below (below_alloc (Below.refl _ _) _)).addK NC.out (by rw [← Ny.out]; exact HO13.out) HG13.out
                    rw [← Ny.out] at q
                    rw [show y.map (·.f0) = ks.map (·.f0) ++ [x.f0] from by rw [Ny.out]; simp]
                    exact q⟩⟩
                · rw [if_neg hpe] at h
                  obtain ⟨rfl, rfl, rfl⟩ : z27 = x1 ∧ pe = e1 ∧ pq = q1 := by simpa using h
                  have hpb : (pe != 0) = true := bne_iff_ne.mpr hpe
                  have HPE := Aside0.mk hpe
                  clear h hpe
                  go_wp2_with (first | (go_at_call 43; refine (reader_token.calls k1 (some ab) cb lb (.slice At lt.length ct) i g w0 _ _ _ _ hC.out hcb.out HN.out.rs HTK.out).mono ?_; rintro e w2 ⟨rfl, hm⟩; have HN := Aside0.mk (HN.out.moved NC.out hm); clear hm; have bz0 := HN.out.blk; have n0 : w2.cell? ⟨gn, 0, none⟩ = some (.string s) := (blk_cell bz0 0).trans rfl; have m0_ : w2.frozen? ⟨gn, 0, none⟩ = false := blk_frozen bz0 0; have n1 : w2.cell? ⟨gn, 1, none⟩ = some (.slice A1 ps.length c1) := (blk_cell bz0 1).trans rfl; have m1_ : w2.frozen? ⟨gn, 1, none⟩ = false := blk_frozen bz0 1; have n2 : w2.cell? ⟨gn, 2, none⟩ = some (.slice A2 ks.length c2) := (blk_cell bz0 2).trans rfl; have m2_ : w2.frozen? ⟨gn, 2, none⟩ = false := blk_frozen bz0 2; have rz0 := blk_kept B6.out HN.out.kept NC6.out; have z0 : w2.cell? ⟨W.heap.size, 0, none⟩ = some (.string ⟨#[]⟩) := (blk_cell rz0 0).trans rfl; have y0_ : w2.frozen? ⟨W.heap.size, 0, none⟩ = false := blk_frozen rz0 0; have z1 : w2.cell? ⟨W.heap.size, 1, none⟩ = some (.slice none 0 0) := (blk_cell rz0 1).trans rfl; have y1_ : w2.frozen? ⟨W.heap.size, 1, none⟩ = false := blk_frozen rz0 1; have z2 : w2.cell? ⟨W.heap.size, 2, none⟩ = some (.slice none 0 0) := (blk_cell rz0 2).trans rfl; have y2_ : w2.frozen? ⟨W.heap.size, 2, none⟩ = false := blk_frozen rz0 2; have BZ := Aside0.mk rz0; clear bz0 rz0; have sz0 : W.heap.size < w2.heap.size := blk_lt BZ.out; have sz1 : gn < w2.heap.size := blk_lt HN.out.blk) | (go_at_call 44; refine (IH.out k1 HKL.out q (ks.map (·.f0)) _ (gn + 1 + 1) _ _ _ _ HN.out.rs HN.out.mK NC.out.lok NC.out.ggk HP.out).mono ?_; rintro e w3 ⟨vp, vk, rfl, hop, hrp, hrk⟩; obtain ⟨Ap, cp, rfl⟩ := Kd.R_slice hrp; obtain ⟨Ak, ck, rfl⟩ := Kd.R_slice hrk; have HOE := Aside0.mk hop; have rz0 := blk_kept BZ.out hop.kept (fun e => e.elim NC.out.six.1 NC.out.six.2.2.2); have z0 : w3.cell? ⟨W.heap.size, 0, none⟩ = some (.string ⟨#[]⟩) := (blk_cell rz0 0).trans rfl; have y0_ : w3.frozen? ⟨W.heap.size, 0, none⟩ = false := blk_frozen rz0 0; have z1 : w3.cell? ⟨W.heap.size, 1, none⟩ = some (.slice none 0 0) := (blk_cell rz0 1).trans rfl; have y1_ : w3.frozen? ⟨W.heap.size, 1, none⟩ = false := blk_frozen rz0 1; have z2 : w3.cell? ⟨W.heap.size, 2, none⟩ = some (.slice none 0 0) := (blk_cell rz0 2).trans rfl; have y2_ : w3.frozen? ⟨W.heap.size, 2, none⟩ = false := blk_frozen rz0 2; have BZ := Aside0.mk rz0; clear rz0; have sz0 : W.heap.size < w3.heap.size := blk_lt BZ.out; clear hop hrp hrk))
                  refine bodyPost_ret (results_ct rfl _ _ W.heap.size 27 #[.string ⟨#[]⟩, .slice none 0 0, .slice none 0 0] (0, 0) _ rfl (by refine blk_alloc ?_ _; refine blk_put (cs := #[.string ⟨#[]⟩, .slice none 0 0, .slice none 0 0]) ?_ 2 _ rfl; refine blk_put (cs := #[.string ⟨#[]⟩, .slice none 0 0, .slice none 0 0]) ?_ 1 _ rfl; refine blk_put (cs := #[.string ⟨#[]⟩, .slice none 0 0, .slice none 0 0]) ?_ 0 _ rfl; exact BZ.out) Try.underlying27 rfl (by kernel_rfl)) rfl ⟨.slice none 0 0, .slice none 0 0, rfl, ?_, Kd.R_nil _ _ _ _ _, Kd.R_nil _ _ _ _ _⟩
                  exact OpR.below (OpR.outer (OpR.outer (OpR.outer (OpR.trans_ HN.out HOE.out (by omega) HK0.out (Nat.le_of_lt hWg) (by omega) (by omega) HPE.out) HLTG.out HLTM.out HS.out.bel.size 0 _) HLTG.out HLTM.out HS.out.bel.size 1 _) HLTG.out HLTM.out HS.out.bel.size 2 _) (below_alloc (Below.refl _ _) _)
  · rw [if_neg he] at h
    obtain ⟨rfl, rfl, rfl⟩ : z27 = x1 ∧ e0 = e1 ∧ q0 = q1 := by simpa using h
    clear h
    have heb : (e0 != 0) = true := bne_iff_ne.mpr he
    have HE := Aside0.mk he
    clear he
    go_enter Try.func44, Try.ntmps44
    go_wp2_with (go_at_call 70; refine HO.out.mono ?_; rintro e w1 ⟨rfl, hx⟩; have HX := Aside0.mk hx; have B1 := Aside0.mk (blk_kept BN.out hx.kept (fun e => by have := HLTG.out; have := HLTM.out; omega)); have z0 : w1.cell? ⟨W.heap.size, 0, none⟩ = some (.string ⟨#[]⟩) := (blk_cell B1.out 0).trans rfl; have z1 : w1.cell? ⟨W.heap.size, 1, none⟩ = some (.slice none 0 0) := (blk_cell B1.out 1).trans rfl; have z2 : w1.cell? ⟨W.heap.size, 2, none⟩ = some (.slice none 0 0) := (blk_cell B1.out 2).trans rfl; have y0 : w1.frozen? ⟨W.heap.size, 0, none⟩ = false := blk_frozen B1.out 0; have y1 : w1.frozen? ⟨W.heap.size, 1, none⟩ = false := blk_frozen B1.out 1; have y2 : w1.frozen? ⟨W.heap.size, 2, none⟩ = false := blk_frozen B1.out 2; clear hx)
    refine bodyPost_ret (results_ct rfl _ _ W.heap.size 27 #[.string ⟨#[]⟩, .slice none 0 0, .slice none 0 0] (0, 0) _ rfl (by refine blk_put (cs := #[.string ⟨#[]⟩, .slice none 0 0, .slice none 0 0]) ?_ 2 _ rfl; refine blk_put (cs := #[.string ⟨#[]⟩, .slice none 0 0, .slice none 0 0]) ?_ 1 _ rfl; refine blk_put (cs := #[.string ⟨#[]⟩, .slice none 0 0, .slice none 0 0]) ?_ 0 _ rfl; exact B1.out) Try.underlying27 rfl (by kernel_rfl)) rfl ⟨.slice none 0 0, .slice none 0 0, rfl, ?_, Kd.R_nil _ _ _ _ _, Kd.R_nil _ _ _ _ _⟩
    exact OpR.outer (OpR.outer (OpR.outer (⟨HX.out.st, (((Kept.refl W _).alloc _).then_ HX.out.kept (fun _ hk => .inl hk)), fun h0 => absurd h0 HE.out⟩) HLTG.out HLTM.out HS.out.bel.size 0 _) HLTG.out HLTM.out HS.out.bel.size 1 _) HLTG.out HLTM.out HS.out.bel.size 2 _
end Go.Proofs.Ytkopmkinlanhoaa.PE

namespace Go.Proofs.Ytkopmkinlanhoaa.PE
open Go.RowKit Go.Proofs.YtkopmkinlanhoaaW.PrintWords Go.Proofs.YtkopmkinlanhoaaW.PrintLast Go.Proofs.YtkopmkinlanhoaaW.PrintMore
attribute [local go_sem] max2_int min2_int max_two min_two max_three min_three max_four min_four
set_option linter.unusedVariables false
set_option linter.unusedSimpArgs false
set_option maxRecDepth 100000 in
set_option maxHeartbeats 4000000 in
theorem decode_Decode.err (A0 : Option Addr) (c0 : Nat) (l0 : List Int) (e : Int) (w : World) (hr0 : Kd.C (Kd.int .u8) w A0 l0.length l0) (hc0 : l0.length ≤ c0) (h : decode_Header.f l0 = some (.zero, e)) (he : e ≠ 0) :
    Calls Try.prog 22 #[.slice A0 l0.length c0] w fun e' w' => e' = .returned (.tuple #[.agg #[.int .u32 0, .slice none 0 0, .string ⟨#[]⟩, .slice none 0 0, .slice none 0 0], .int .i64 e]) ∧ Below w.heap.size w w' := by
  have q := fun (W : World) hC => decode_Header.calls A0 c0 l0 .zero e W hC hc0 h
  have eb : (e != 0) = true := bne_iff_ne.mpr he
  have eb2 : (e == 0) = false := beq_eq_false_iff_ne.mpr he
  have HR0 := Aside0.mk hr0
  have Q := Aside0.mk q
  clear q h hr0 he
  go_enter Try.func22, Try.ntmps22
  go_wp2_with (go_at_call 17; refine (Q.out _ (Kd.C_below HR0.out (below_alloc (Below.refl _ _) _))).mono ?_; simp only [Hdr.val, Hdr.zero]; rintro e w' ⟨rfl, hb⟩; have HB := Aside0.mk hb; have HK := Aside0.mk (blk_below (blk_new w (.cells #[.int .u32 0, .slice none 0 0, .string ⟨#[]⟩, .slice none 0 0, .slice none 0 0] 29 (0, 0))) hb); have z0 : w'.cell? ⟨w.heap.size, 0, none⟩ = some (.int .u32 0) := (blk_cell HK.out 0).trans rfl; have f0 : w'.frozen? ⟨w.heap.size, 0, none⟩ = false := blk_frozen HK.out 0; have z1 : w'.cell? ⟨w.heap.size, 1, none⟩ = some (.slice none 0 0) := (blk_cell HK.out 1).trans rfl; have f1 : w'.frozen? ⟨w.heap.size, 1, none⟩ = false := blk_frozen HK.out 1; have z2 : w'.cell? ⟨w.heap.size, 2, none⟩ = some (.string ⟨#[]⟩) := (blk_cell HK.out 2).trans rfl; have f2 : w'.frozen? ⟨w.heap.size, 2, none⟩ = false := blk_frozen HK.out 2; have z3 : w'.cell? ⟨w.heap.size, 3, none⟩ = some (.slice none 0 0) := (blk_cell HK.out 3).trans rfl; have f3 : w'.frozen? ⟨w.heap.size, 3, none⟩ = false := blk_frozen HK.out 3; have z4 : w'.cell? ⟨w.heap.size, 4, none⟩ = some (.slice none 0 0) := (blk_cell HK.out 4).trans rfl; have f4 : w'.frozen? ⟨w.heap.size, 4, none⟩ = false := blk_frozen HK.out 4; have hlt : w.heap.size < w'.heap.size := blk_lt HK.out; clear hb)
  refine bodyPost_ret (results_ct rfl _ _ w.heap.size 29 #[.int .u32 0, .slice none 0 0, .string ⟨#[]⟩, .slice none 0 0, .slice none 0 0] (0, 0) _ rfl (by refine blk_alloc ?_ _; refine blk_put (cs := #[.int .u32 0, .slice none 0 0, .string ⟨#[]⟩, .slice none 0 0, .slice none 0 0]) ?_ 4 _ rfl; refine blk_put (cs := #[.int .u32 0, .slice none 0 0, .string ⟨#[]⟩, .slice none 0 0, .slice none 0 0]) ?_ 3 _ rfl; refine blk_put (cs := #[.int .u32 0, .slice none 0 0, .string ⟨#[]⟩, .slice none 0 0, .slice none 0 0]) ?_ 2 _ rfl; refine blk_put (cs := #[.int .u32 0, .slice none 0 0, .string ⟨#[]⟩, .slice none 0 0, .slice none 0 0]) ?_ 1 _ rfl; refine blk_put (cs := #[.int .u32 0, .slice none 0 0, .string ⟨#[]⟩, .slice none 0 0, .slice none 0 0]) ?_ 0 _ rfl; exact HK.out) Try.underlying29 rfl (by kernel_rfl)) rfl ⟨rfl, ?_⟩
  exact below_alloc ((((((below_step (below_alloc (Below.refl _ _) _) HB.out).setCell (Nat.le_refl _) _).setCell (Nat.le_refl _) _).setCell (Nat.le_refl _) _).setCell (Nat.le_refl _) _).setCell (Nat.le_refl _) _) _
end Go.Proofs.Ytkopmkinlanhoaa.PE

namespace Go.Proofs.Ytkopmkinlanhoaa.PE
open Go.RowKit Go.Proofs.YtkopmkinlanhoaaW.PrintWords Go.Proofs.YtkopmkinlanhoaaW.PrintLast Go.Proofs.YtkopmkinlanhoaaW.PrintMore
attribute [local go_sem] max2_int min2_int max_two min_two max_three min_three max_four min_four
set_option linter.unusedVariables false
set_option linter.unusedSimpArgs false
def partB (l : List Int) (a n : Int) : List Int := (l.take (a + n).toNat).drop a.toNat
def decode_Decode.f (k : Nat) (l : List Int) : Option (S29 × Int) :=
  (decode_Header.f l).bind fun h => if h.2 = 0 then
    (decode_reserves.f k l h.1.c4).bind fun r => if r.2 = 0 then
      (tokF k (partB l h.1.c2 h.1.c9) 0).bind fun t => if t.2.1 = true then (if t.1 = 1 then
        (nodeF k (partB l h.1.c2 h.1.c9) (partB l h.1.c3 h.1.c8) t.2.2 [] 1).bind fun x => if x.2.1 = 0 then
          (tokF k (partB l h.1.c2 h.1.c9) x.2.2).bind fun u => if u.2.1 = true then (if u.1 = 9 then (if u.2.2 = ((partB l h.1.c2 h.1.c9).length : Int) then
            (tree_Count.f k x.1.f0 x.1.f1 x.1.f2).bind fun c => if c.1 > 4096 then some (z29, 7) else if c.2 > 8192 then some (z29, 7) else some (⟨h.1.c7, r.1, x.1⟩, 0)
          else some (z29, 4)) else some (z29, 4)) else some (z29, 4)
        else some (z29, x.2.1)
      else some (z29, 4)) else some (z29, 4)
    else some (z29, r.2)
  else some (z29, h.2)
theorem header_ok {l : List Int} {h : Hdr} (hh : decode_Header.f l = some (h, 0)) : h = hdrOf l ∧ 40 ≤ l.length ∧ l.length ≤ 1048576 ∧ inB h.c2 h.c9 l.length = true ∧ inB h.c3 h.c8 l.length = true ∧ inB h.c4 0 l.length = true ∧ h.c1 = l.length := by
  unfold decode_Header.f at hh
  replace hh := Option.some.inj hh
  by_cases c1 : l.length < 40
  · rw [if_pos c1] at hh; simp at hh
  rw [if_neg c1] at hh
  by_cases c2 : 1048576 < l.length
  · rw [if_pos c2] at hh; simp at hh
  rw [if_neg c2] at hh
  by_cases c3 : hdrErr (hdrOf l) l.length = 0
  · rw [if_pos c3] at hh
    obtain ⟨rfl, _⟩ := Prod.mk.inj hh
    unfold hdrErr at c3
    refine ⟨rfl, by omega, by omega, ?_⟩
    split at c3
    · split at c3
      · split at c3
        · split at c3
          · split at c3
            · split at c3
              · split at c3
                · exact ⟨by assumption, by assumption, by assumption, by assumption⟩
                · omega
              · omega
            · omega
          · omega
        · omega
      · omega
    · omega
  · rw [if_neg c3] at hh
    exact absurd (Prod.mk.inj hh).2 c3
theorem inB_le {a s n : Int} (h : inB a s n = true) (ha : 0 ≤ a ∧ a < 4294967296) (hs : 0 ≤ s ∧ s < 4294967296) (hn : 0 ≤ n ∧ n ≤ 1048576) : 40 ≤ a ∧ a + s ≤ n := by
  unfold inB at h
  split at h
  · have h := of_decide_eq_true h
    rw [u64_small (x := a) (by omega) (by omega), u64_small (x := s) (by omega) (by omega), u64_small (x := n) (by omega) (by omega), u64_small (x := a + s) (by omega) (by omega)] at h
    omega
  · cases h
theorem R_keptg {α : Type} {d : Kd α} {e g B : Nat} {W W2 : World} {v : Value} {l : List α} (h : d.R e W B (fun _ => True) v l) (hk : Kept W W2 (fun k => k = g)) (hg : g < B) : d.R e W2 B (fun _ => True) v l :=
  Kd.R_mono (Kd.R_kept (Kd.R_bound h) hk (fun k hk e => by have := hk.2.1; omega)) (fun _ _ => trivial)
theorem R_out5 {α : Type} {d : Kd α} {e : Nat} {W2 : World} {B b : Nat} {v : Value} {l : List α} (h : d.R e W2 b (fun _ => True) v l) (hB : B < b) (u0 u1 u2 u3 u4 : Value) : d.R e (((((W2.setCell ⟨B, 0, none⟩ u0).setCell ⟨B, 1, none⟩ u1).setCell ⟨B, 2, none⟩ u2).setCell ⟨B, 3, none⟩ u3).setCell ⟨B, 4, none⟩ u4) b (fun _ => True) v l := by
  have one : ∀ {W3 : World} (j : Nat) (u : Value), d.R e W3 b (fun _ => True) v l → d.R e (W3.setCell ⟨B, j, none⟩ u) b (fun _ => True) v l := fun j u h => Kd.R_mono (Kd.R_far (p := ⟨B, j, none⟩) (Kd.R_bound h) (fun k hk => by have := hk.2.1; simp only; omega) u) (fun _ _ => trivial)
  exact one 4 u4 (one 3 u3 (one 2 u2 (one 1 u1 (one 0 u0 h))))
set_option maxRecDepth 100000 in
set_option maxHeartbeats 8000000 in
theorem decode_Decode.calls (k : Nat) (A0 : Option Addr) (c0 : Nat) (l0 : List Int) (r1 : S29) (r2 : Int) (w : World) (hr0 : Kd.C (Kd.int .u8) w A0 l0.length l0) (hc0 : l0.length ≤ c0) (hfun : decode_Decode.f k l0 = some (r1, r2)) :
    Calls Try.prog 22 #[.slice A0 l0.length c0] w fun e' w' => ∃ vr v1 v2 : Value, e' = .returned (.tuple #[.agg #[.int .u32 r1.f0, vr, .string r1.f2.f0, v1, v2], .int .i64 r2]) ∧ Kd.R k82 82 w' w.heap.size (fun _ => True) vr r1.f1 ∧ Kd.R k63 63 w' w.heap.size (fun _ => True) v1 r1.f2.f1 ∧ Kd.R k27 27 w' w.heap.size (fun _ => True) v2 r1.f2.f2 ∧ Below w.heap.size w w' := by
  unfold decode_Decode.f at hfun
  obtain ⟨⟨h, e⟩, hh, hfun⟩ := Option.bind_eq_some_iff.mp hfun
  simp only at hfun
  by_cases he : e = 0
  case neg =>
    rw [if_neg he] at hfun
    obtain ⟨rfl, rfl⟩ : z29 = r1 ∧ e = r2 := by simpa using hfun
    have hz : h = .zero := by
      unfold decode_Header.f at hh
      replace hh := Option.some.inj hh
      split at hh
      · exact (Prod.mk.inj hh).1.symm
      · split at hh
        · exact (Prod.mk.inj hh).1.symm
        · split at hh
          · exact absurd (Prod.mk.inj hh).2.symm he
          · exact (Prod.mk.inj hh).1.symm
    subst hz
    refine (decode_Decode.err A0 c0 l0 e w hr0 hc0 hh he).mono ?_
    rintro e' w' ⟨rfl, hb⟩
    exact ⟨_, _, _, rfl, Kd.R_nil _ _ _ _ _, Kd.R_nil _ _ _ _ _, Kd.R_nil _ _ _ _ _, hb⟩
  subst he
  rw [if_pos rfl] at hfun
  obtain ⟨rfl, hl1, hl2, hi1, hi2, hi3, _⟩ := header_ok hh
  have g2 := cellAt_range l0 8
  have g9 := cellAt_range l0 36
  have g3 := cellAt_range l0 12
  have g8 := cellAt_range l0 32
  have g4 := cellAt_range l0 16
  have b1 := inB_le hi1 g2 g9 ⟨by omega, by omega⟩
  have b2 := inB_le hi2 g3 g8 ⟨by omega, by omega⟩
  have b3 := inB_le hi3 g4 ⟨by decide, by decide⟩ ⟨by omega, by omega⟩
  obtain ⟨h, hhd⟩ : ∃ h : Hdr, h = hdrOf l0 := ⟨_, rfl⟩
  replace g2 : 0 ≤ h.c2 ∧ h.c2 < 4294967296 := by rw [hhd]; exact g2
  replace g9 : 0 ≤ h.c9 ∧ h.c9 < 4294967296 := by rw [hhd]; exact g9
  replace g3 : 0 ≤ h.c3 ∧ h.c3 < 4294967296 := by rw [hhd]; exact g3
  replace g8 : 0 ≤ h.c8 ∧ h.c8 < 4294967296 := by rw [hhd]; exact g8
  replace g4 : 0 ≤ h.c4 ∧ h.c4 < 4294967296 := by rw [hhd]; exact g4
  replace b1 : 40 ≤ h.c2 ∧ h.c2 + h.c9 ≤ l0.length := by rw [hhd]; exact b1
  replace b2 : 40 ≤ h.c3 ∧ h.c3 + h.c8 ≤ l0.length := by rw [hhd]; exact b2
  rw [← hhd] at hh hfun
  clear hhd hi1 hi2 hi3 b3
  have HHD := Aside0.mk (fun (W : World) hC => decode_Header.calls A0 c0 l0 h 0 W hC hc0 hh)
  obtain ⟨⟨rs, re⟩, hr, hfun⟩ := Option.bind_eq_some_iff.mp hfun
  simp only at hfun
  have HRS := Aside0.mk (fun (W : World) hC => decode_reserves.calls k A0 c0 l0 h.c4 rs re W hC hc0 hr)
  have HR0 := Aside0.mk hr0
  have HC0 := Aside0.mk hc0
  have g40 := g4.1
  have g41 := g4.2
  clear hh hr hr0 hc0
  by_cases hre : re = 0
  case neg =>
    rw [if_neg hre] at hfun
    obtain ⟨rfl, rfl⟩ : z29 = r1 ∧ re = r2 := by simpa using hfun
    have hreb : (re != 0) = true := bne_iff_ne.mpr hre
    clear hfun hre
    go_enter Try.func22, Try.ntmps22
    go_wp2_with (first | (go_at_call 17; refine (HHD.out _ (Kd.C_below HR0.out (below_alloc (Below.refl _ _) _))).mono ?_; simp only [Hdr.val]; rintro e w1 ⟨rfl, hb⟩; have HB := Aside0.mk (below_step (below_alloc (Below.refl w.heap.size w) _) hb); have HK := Aside0.mk (blk_below (blk_new w (.cells #[.int .u32 0, .slice none 0 0, .string ⟨#[]⟩, .slice none 0 0, .slice none 0 0] 29 (0, 0))) hb); have HH := Aside0.mk (blk_new w1 (.cells #[.int .u32 h.c0, .int .u32 h.c1, .int .u32 h.c2, .int .u32 h.c3, .int .u32 h.c4, .int .u32 h.c5, .int .u32 h.c6, .int .u32 h.c7, .int .u32 h.c8, .int .u32 h.c9] 43 (0, 0))); clear hb; have z0 : w1.cell? ⟨w.heap.size, 0, none⟩ = some (.int .u32 0) := (blk_cell HK.out 0).trans rfl; have f0 : w1.frozen? ⟨w.heap.size, 0, none⟩ = false := blk_frozen HK.out 0; have z1 : w1.cell? ⟨w.heap.size, 1, none⟩ = some (.slice none 0 0) := (blk_cell HK.out 1).trans rfl; have f1 : w1.frozen? ⟨w.heap.size, 1, none⟩ = false := blk_frozen HK.out 1; have z2 : w1.cell? ⟨w.heap.size, 2, none⟩ = some (.string ⟨#[]⟩) := (blk_cell HK.out 2).trans rfl; have f2 : w1.frozen? ⟨w.heap.size, 2, none⟩ = false := blk_frozen HK.out 2; have z3 : w1.cell? ⟨w.heap.size, 3, none⟩ = some (.slice none 0 0) := (blk_cell HK.out 3).trans rfl; have f3 : w1.frozen? ⟨w.heap.size, 3, none⟩ = false := blk_frozen HK.out 3; have z4 : w1.cell? ⟨w.heap.size, 4, none⟩ = some (.slice none 0 0) := (blk_cell HK.out 4).trans rfl; have f4 : w1.frozen? ⟨w.heap.size, 4, none⟩ = false := blk_frozen HK.out 4; have hlt : w.heap.size < w1.heap.size := blk_lt HK.out) | (go_at_call 42; refine (HRS.out _ (Kd.C_below HR0.out (below_alloc HB.out _))).mono ?_; rintro e w2 ⟨vr, rfl, hvr, hb⟩; obtain ⟨Ar, cr, rfl⟩ := Kd.R_slice hvr; have HVR := Aside0.mk (Kd.R_lower (base' := w.heap.size + 1) hvr (Nat.le_trans (blk_lt HK.out) (below_alloc (Below.refl w1.heap.size w1) _).size)); have HK := Aside0.mk (blk_below (blk_alloc HK.out _) hb); have HH := Aside0.mk (blk_below HH.out hb); have HB := Aside0.mk (below_step (below_alloc HB.out _) hb); clear hvr hb; have z0 : w2.cell? ⟨w.heap.size, 0, none⟩ = some (.int .u32 0) := (blk_cell HK.out 0).trans rfl; have f0 : w2.frozen? ⟨w.heap.size, 0, none⟩ = false := blk_frozen HK.out 0; have z1 : w2.cell? ⟨w.heap.size, 1, none⟩ = some (.slice none 0 0) := (blk_cell HK.out 1).trans rfl; have f1 : w2.frozen? ⟨w.heap.size, 1, none⟩ = false := blk_frozen HK.out 1; have z2 : w2.cell? ⟨w.heap.size, 2, none⟩ = some (.string ⟨#[]⟩) := (blk_cell HK.out 2).trans rfl; have f2 : w2.frozen? ⟨w.heap.size, 2, none⟩ = false := blk_frozen HK.out 2; have z3 : w2.cell? ⟨w.heap.size, 3, none⟩ = some (.slice none 0 0) := (blk_cell HK.out 3).trans rfl; have f3 : w2.frozen? ⟨w.heap.size, 3, none⟩ = false := blk_frozen HK.out 3; have z4 : w2.cell? ⟨w.heap.size, 4, none⟩ = some (.slice none 0 0) := (blk_cell HK.out 4).trans rfl; have f4 : w2.frozen? ⟨w.heap.size, 4, none⟩ = false := blk_frozen HK.out 4; have hlt : w.heap.size < w2.heap.size := blk_lt HK.out; have hh2 : w2.cell? ⟨w1.heap.size, 2, none⟩ = some (.int .u32 h.c2) := (blk_cell HH.out 2).trans rfl; have hh3 : w2.cell? ⟨w1.heap.size, 3, none⟩ = some (.int .u32 h.c3) := (blk_cell HH.out 3).trans rfl; have hh4 : w2.cell? ⟨w1.heap.size, 4, none⟩ = some (.int .u32 h.c4) := (blk_cell HH.out 4).trans rfl; have hh7 : w2.cell? ⟨w1.heap.size, 7, none⟩ = some (.int .u32 h.c7) := (blk_cell HH.out 7).trans rfl; have hh8 : w2.cell? ⟨w1.heap.size, 8, none⟩ = some (.int .u32 h.c8) := (blk_cell HH.out 8).trans rfl; have hh9 : w2.cell? ⟨w1.heap.size, 9, none⟩ = some (.int .u32 h.c9) := (blk_cell HH.out 9).trans rfl; have hlt2 : w1.heap.size < w2.heap.size := blk_lt HH.out))
    refine bodyPost_ret (results_ct rfl _ _ w.heap.size 29 #[.int .u32 0, .slice none 0 0, .string ⟨#[]⟩, .slice none 0 0, .slice none 0 0] (0, 0) _ rfl (by refine blk_put (cs := #[.int .u32 0, .slice none 0 0, .string ⟨#[]⟩, .slice none 0 0, .slice none 0 0]) ?_ 4 _ rfl; refine blk_put (cs := #[.int .u32 0, .slice none 0 0, .string ⟨#[]⟩, .slice none 0 0, .slice none 0 0]) ?_ 3 _ rfl; refine blk_put (cs := #[.int .u32 0, .slice none 0 0, .string ⟨#[]⟩, .slice none 0 0, .slice none 0 0]) ?_ 2 _ rfl; refine blk_put (cs := #[.int .u32 0, .slice none 0 0, .string ⟨#[]⟩, .slice none 0 0, .slice none 0 0]) ?_ 1 _ rfl; refine blk_put (cs := #[.int .u32 0, .slice none 0 0, .string ⟨#[]⟩, .slice none 0 0, .slice none 0 0]) ?_ 0 _ rfl; exact HK.out) Try.underlying29 rfl (by kernel_rfl)) rfl ⟨_, _, _, rfl, Kd.R_nil _ _ _ _ _, Kd.R_nil _ _ _ _ _, Kd.R_nil _ _ _ _ _, ?_⟩
    exact (((((HB.out.setCell (Nat.le_refl _) _).setCell (Nat.le_refl _) _).setCell (Nat.le_refl _) _).setCell (Nat.le_refl _) _).setCell (Nat.le_refl _) _)
  subst hre
  rw [if_pos rfl] at hfun
  obtain ⟨i0, hi0, hza, hsz, hzb⟩ := info_parts info5
  have hcut1 := cut_mid 45 5 .u32 .u32 Try.underlying45 hi0 1 hsz A0 l0.length c0 h.c2 (h.c2 + h.c9) (by omega) (by omega) (by omega) HC0.out
  have hcut2 := cut_mid 45 5 .u32 .u32 Try.underlying45 hi0 1 hsz A0 l0.length c0 h.c3 (h.c3 + h.c8) (by omega) (by omega) (by omega) HC0.out
  have s1 : IntKind.u32.wrap (h.c2 + h.c9) = h.c2 + h.c9 := by simp only [IntKind.wrap, IntKind.bits, IntKind.signed]; simp; omega
  have s2 : IntKind.u32.wrap (h.c3 + h.c8) = h.c3 + h.c8 := by simp only [IntKind.wrap, IntKind.bits, IntKind.signed]; simp; omega
  have C1 := Kd.C_mid (lo := h.c2.toNat) (hi := (h.c2 + h.c9).toNat) HR0.out (by omega) (by omega) HC0.out
  have C2 := Kd.C_mid (lo := h.c3.toNat) (hi := (h.c3 + h.c8).toNat) HR0.out (by omega) (by omega) HC0.out
  obtain ⟨a0, ha0, _⟩ := HR0.out.2.2 (by omega)
  obtain ⟨ab, hab⟩ : ∃ ab, some ab = (if c0 = h.c2.toNat then A0 else A0.map (·.add (h.c2.toNat * 1))) := by rw [ha0]; split <;> exact ⟨_, rfl⟩
  obtain ⟨At, hAt⟩ : ∃ At, At = (if c0 = h.c3.toNat then A0 else A0.map (·.add (h.c3.toNat * 1))) := ⟨_, rfl⟩
  obtain ⟨lb, hlb⟩ : ∃ y, y = partB l0 h.c2 h.c9 := ⟨_, rfl⟩
  obtain ⟨lt, hlt_⟩ : ∃ y, y = partB l0 h.c3 h.c8 := ⟨_, rfl⟩
  have L1 : (h.c2 + h.c9).toNat - h.c2.toNat = lb.length := by rw [hlb]; unfold partB; rw [List.length_drop, List.length_take]; omega
  have L2 : (h.c3 + h.c8).toNat - h.c3.toNat = lt.length := by rw [hlt_]; unfold partB; rw [List.length_drop, List.length_take]; omega
  rw [← hab, L1] at hcut1
  rw [← hAt, L2] at hcut2
  rw [show (Kd.int .u8).sz = 1 from rfl, ← hab, show (l0.take (h.c2 + h.c9).toNat).drop h.c2.toNat = lb from hlb.symm] at C1
  rw [show (Kd.int .u8).sz = 1 from rfl, ← hAt, show (l0.take (h.c3 + h.c8).toNat).drop h.c3.toNat = lt from hlt_.symm] at C2
  obtain ⟨cb, hcb⟩ : ∃ cb, cb = c0 - h.c2.toNat := ⟨_, rfl⟩
  obtain ⟨ct, hct⟩ : ∃ ct, ct = c0 - h.c3.toNat := ⟨_, rfl⟩
  have hc00 := HC0.out
  have HCB := Aside0.mk (show lb.length ≤ cb by omega)
  have HCT := Aside0.mk (show lt.length ≤ ct by omega)
  rw [← hcb] at hcut1
  rw [← hct] at hcut2
  have HB1 := Aside0.mk C1
  have HT1 := Aside0.mk C2
  rw [← hlb, ← hlt_] at hfun
  have HFUN := Aside0.mk hfun
  clear hc00 hcb hct L1 L2 C1 C2 hab hAt hlb hlt_ ha0 hza hsz hzb hi0 hfun b1 b2 g2 g9 g3 g8 g4
  go_enter Try.func22, Try.ntmps22
  go_wp2_with (first | (go_at_call 17; refine (HHD.out _ (Kd.C_below HR0.out (below_alloc (Below.refl _ _) _))).mono ?_; simp only [Hdr.val]; rintro e w1 ⟨rfl, hb⟩; have HB := Aside0.mk (below_step (below_alloc (Below.refl w.heap.size w) _) hb); have HK := Aside0.mk (blk_below (blk_new w (.cells #[.int .u32 0, .slice none 0 0, .string ⟨#[]⟩, .slice none 0 0, .slice none 0 0] 29 (0, 0))) hb); have HH := Aside0.mk (blk_new w1 (.cells #[.int .u32 h.c0, .int .u32 h.c1, .int .u32 h.c2, .int .u32 h.c3, .int .u32 h.c4, .int .u32 h.c5, .int .u32 h.c6, .int .u32 h.c7, .int .u32 h.c8, .int .u32 h.c9] 43 (0, 0))); clear hb; have z0 : w1.cell? ⟨w.heap.size, 0, none⟩ = some (.int .u32 0) := (blk_cell HK.out 0).trans rfl; have f0 : w1.frozen? ⟨w.heap.size, 0, none⟩ = false := blk_frozen HK.out 0; have z1 : w1.cell? ⟨w.heap.size, 1, none⟩ = some (.slice none 0 0) := (blk_cell HK.out 1).trans rfl; have f1 : w1.frozen? ⟨w.heap.size, 1, none⟩ = false := blk_frozen HK.out 1; have z2 : w1.cell? ⟨w.heap.size, 2, none⟩ = some (.string ⟨#[]⟩) := (blk_cell HK.out 2).trans rfl; have f2 : w1.frozen? ⟨w.heap.size, 2, none⟩ = false := blk_frozen HK.out 2; have z3 : w1.cell? ⟨w.heap.size, 3, none⟩ = some (.slice none 0 0) := (blk_cell HK.out 3).trans rfl; have f3 : w1.frozen? ⟨w.heap.size, 3, none⟩ = false := blk_frozen HK.out 3; have z4 : w1.cell? ⟨w.heap.size, 4, none⟩ = some (.slice none 0 0) := (blk_cell HK.out 4).trans rfl; have f4 : w1.frozen? ⟨w.heap.size, 4, none⟩ = false := blk_frozen HK.out 4; have hlt : w.heap.size < w1.heap.size := blk_lt HK.out) | (go_at_call 42; refine (HRS.out _ (Kd.C_below HR0.out (below_alloc HB.out _))).mono ?_; rintro e w2 ⟨vr, rfl, hvr, hb⟩; obtain ⟨Ar, cr, rfl⟩ := Kd.R_slice hvr; have HVR := Aside0.mk (Kd.R_lower (base' := w.heap.size + 1) hvr (Nat.le_trans (blk_lt HK.out) (below_alloc (Below.refl w1.heap.size w1) _).size)); have HK := Aside0.mk (blk_below (blk_alloc HK.out _) hb); have HH := Aside0.mk (blk_below HH.out hb); have HB := Aside0.mk (below_step (below_alloc HB.out _) hb); clear hvr hb; have z0 : w2.cell? ⟨w.heap.size, 0, none⟩ = some (.int .u32 0) := (blk_cell HK.out 0).trans rfl; have f0 : w2.frozen? ⟨w.heap.size, 0, none⟩ = false := blk_frozen HK.out 0; have z1 : w2.cell? ⟨w.heap.size, 1, none⟩ = some (.slice none 0 0) := (blk_cell HK.out 1).trans rfl; have f1 : w2.frozen? ⟨w.heap.size, 1, none⟩ = false := blk_frozen HK.out 1; have z2 : w2.cell? ⟨w.heap.size, 2, none⟩ = some (.string ⟨#[]⟩) := (blk_cell HK.out 2).trans rfl; have f2 : w2.frozen? ⟨w.heap.size, 2, none⟩ = false := blk_frozen HK.out 2; have z3 : w2.cell? ⟨w.heap.size, 3, none⟩ = some (.slice none 0 0) := (blk_cell HK.out 3).trans rfl; have f3 : w2.frozen? ⟨w.heap.size, 3, none⟩ = false := blk_frozen HK.out 3; have z4 : w2.cell? ⟨w.heap.size, 4, none⟩ = some (.slice none 0 0) := (blk_cell HK.out 4).trans rfl; have f4 : w2.frozen? ⟨w.heap.size, 4, none⟩ = false := blk_frozen HK.out 4; have hlt : w.heap.size < w2.heap.size := blk_lt HK.out; have hh2 : w2.cell? ⟨w1.heap.size, 2, none⟩ = some (.int .u32 h.c2) := (blk_cell HH.out 2).trans rfl; have hh3 : w2.cell? ⟨w1.heap.size, 3, none⟩ = some (.int .u32 h.c3) := (blk_cell HH.out 3).trans rfl; have hh4 : w2.cell? ⟨w1.heap.size, 4, none⟩ = some (.int .u32 h.c4) := (blk_cell HH.out 4).trans rfl; have hh7 : w2.cell? ⟨w1.heap.size, 7, none⟩ = some (.int .u32 h.c7) := (blk_cell HH.out 7).trans rfl; have hh8 : w2.cell? ⟨w1.heap.size, 8, none⟩ = some (.int .u32 h.c8) := (blk_cell HH.out 8).trans rfl; have hh9 : w2.cell? ⟨w1.heap.size, 9, none⟩ = some (.int .u32 h.c9) := (blk_cell HH.out 9).trans rfl; have hlt2 : w1.heap.size < w2.heap.size := blk_lt HH.out))
  go_still_tail 19, (by kernel_rfl)
  change wpList _ _ _ _ _ w2.drew
  have HBb := Aside0.mk (below_drew1 HB.out)
  have HKb := Aside0.mk (blk_drew HK.out)
  have HHb := Aside0.mk (blk_drew HH.out)
  have HVb := Aside0.mk (Kd.R_drew HVR.out)
  clear HB HK HH HVR z0 z1 z2 z3 z4 f0 f1 f2 f3 f4 hlt hh2 hh3 hh4 hh7 hh8 hh9 hlt2
  generalize w2.drew = wb at HBb HKb HHb HVb ⊢
  generalize w1.heap.size = gh at HHb ⊢
  have HCb := Aside0.mk (Kd.C_below HB1.out HBb.out)
  have HTb := Aside0.mk (Kd.C_below HT1.out HBb.out)
  have HS0 := Aside0.mk (RdS.mk (st := .slice At lt.length ct) (below_alloc (Below.refl wb.heap.size wb) (.cells #[.slice (some ab) lb.length cb, .slice At lt.length ct, .int .i64 0] 91)) (Nat.le_refl wb.heap.size) (blk_new wb (.cells #[.slice (some ab) lb.length cb, .slice At lt.length ct, .int .i64 0] 91 (0, 0))))
  have hwg : w.heap.size ≤ wb.heap.size := HBb.out.size
  have hgh : gh < wb.heap.size := blk_lt HHb.out
  have hwb : w.heap.size < wb.heap.size := blk_lt HKb.out
  have hmk : ∀ W : World, (Instr.makeMap 94 none).run Try.prog W = .ok (.map (some W.heap.size)) (W.alloc (.map #[] 0)) := fun W => by kernel_rfl
  have hfun := HFUN.out
  clear HFUN
  obtain ⟨⟨tv, tb, tq⟩, htk, hfun⟩ := Option.bind_eq_some_iff.mp hfun
  simp only at hfun
  have HTK := Aside0.mk htk
  clear htk
  cases tb with
  | false =>
    rw [if_neg (by decide)] at hfun
    obtain ⟨rfl, rfl⟩ : z29 = r1 ∧ (4 : Int) = r2 := by simpa using hfun
    clear hfun
    go_wp2_with (go_at_call 43; refine (reader_token.calls k (some ab) cb lb (.slice At lt.length ct) 0 wb.heap.size wb _ _ _ _ HCb.out HCB.out HS0.out HTK.out).mono ?_; rintro e w3 ⟨rfl, hm⟩; have HS := Aside0.mk hm.st; have hg3 : wb.heap.size < w3.heap.size := blk_lt HS.out.blk; clear hm; have HK := Aside0.mk (blk_below HKb.out HS.out.bel); have HB := Aside0.mk (below_step HBb.out HS.out.bel); have HH := Aside0.mk (blk_below HHb.out HS.out.bel); have z0 : w3.cell? ⟨w.heap.size, 0, none⟩ = some (.int .u32 0) := (blk_cell HK.out 0).trans rfl; have f0 : w3.frozen? ⟨w.heap.size, 0, none⟩ = false := blk_frozen HK.out 0; have z1 : w3.cell? ⟨w.heap.size, 1, none⟩ = some (.slice none 0 0) := (blk_cell HK.out 1).trans rfl; have f1 : w3.frozen? ⟨w.heap.size, 1, none⟩ = false := blk_frozen HK.out 1; have z2 : w3.cell? ⟨w.heap.size, 2, none⟩ = some (.string ⟨#[]⟩) := (blk_cell HK.out 2).trans rfl; have f2 : w3.frozen? ⟨w.heap.size, 2, none⟩ = false := blk_frozen HK.out 2; have z3 : w3.cell? ⟨w.heap.size, 3, none⟩ = some (.slice none 0 0) := (blk_cell HK.out 3).trans rfl; have f3 : w3.frozen? ⟨w.heap.size, 3, none⟩ = false := blk_frozen HK.out 3; have z4 : w3.cell? ⟨w.heap.size, 4, none⟩ = some (.slice none 0 0) := (blk_cell HK.out 4).trans rfl; have f4 : w3.frozen? ⟨w.heap.size, 4, none⟩ = false := blk_frozen HK.out 4; have hlt : w.heap.size < w3.heap.size := blk_lt HK.out; have hh2 : w3.cell? ⟨gh, 2, none⟩ = some (.int .u32 h.c2) := (blk_cell HH.out 2).trans rfl; have hh3 : w3.cell? ⟨gh, 3, none⟩ = some (.int .u32 h.c3) := (blk_cell HH.out 3).trans rfl; have hh4 : w3.cell? ⟨gh, 4, none⟩ = some (.int .u32 h.c4) := (blk_cell HH.out 4).trans rfl; have hh7 : w3.cell? ⟨gh, 7, none⟩ = some (.int .u32 h.c7) := (blk_cell HH.out 7).trans rfl; have hh8 : w3.cell? ⟨gh, 8, none⟩ = some (.int .u32 h.c8) := (blk_cell HH.out 8).trans rfl; have hh9 : w3.cell? ⟨gh, 9, none⟩ = some (.int .u32 h.c9) := (blk_cell HH.out 9).trans rfl; have kr0 : w3.cell? ⟨wb.heap.size, 0, none⟩ = some (.slice (some ab) lb.length cb) := (blk_cell HS.out.blk 0).trans rfl)
    refine bodyPost_ret (results_ct rfl _ _ w.heap.size 29 #[.int .u32 0, .slice none 0 0, .string ⟨#[]⟩, .slice none 0 0, .slice none 0 0] (0, 0) _ rfl (by (with_reducible repeat (first | refine blk_alloc ?_ _ | refine blk_drewN ?_ _)); refine blk_put (cs := #[.int .u32 0, .slice none 0 0, .string ⟨#[]⟩, .slice none 0 0, .slice none 0 0]) ?_ 4 _ rfl; (with_reducible repeat (first | refine blk_alloc ?_ _ | refine blk_drewN ?_ _)); refine blk_put (cs := #[.int .u32 0, .slice none 0 0, .string ⟨#[]⟩, .slice none 0 0, .slice none 0 0]) ?_ 3 _ rfl; (with_reducible repeat (first | refine blk_alloc ?_ _ | refine blk_drewN ?_ _)); refine blk_put (cs := #[.int .u32 0, .slice none 0 0, .string ⟨#[]⟩, .slice none 0 0, .slice none 0 0]) ?_ 2 _ rfl; (with_reducible repeat (first | refine blk_alloc ?_ _ | refine blk_drewN ?_ _)); refine blk_put (cs := #[.int .u32 0, .slice none 0 0, .string ⟨#[]⟩, .slice none 0 0, .slice none 0 0]) ?_ 1 _ rfl; (with_reducible repeat (first | refine blk_alloc ?_ _ | refine blk_drewN ?_ _)); refine blk_put (cs := #[.int .u32 0, .slice none 0 0, .string ⟨#[]⟩, .slice none 0 0, .slice none 0 0]) ?_ 0 _ rfl; (with_reducible repeat (first | refine blk_alloc ?_ _ | refine blk_drewN ?_ _)); exact HK.out) Try.underlying29 rfl (by kernel_rfl)) rfl ⟨_, _, _, rfl, Kd.R_nil _ _ _ _ _, Kd.R_nil _ _ _ _ _, Kd.R_nil _ _ _ _ _, ?_⟩
    repeat (first | (with_reducible exact HB.out) | (with_reducible refine below_alloc ?_ _) | (with_reducible refine pw_below_drewN ?_ _) | (refine Below.setCell ?_ (by exact Nat.le_refl _) _))
  | true =>
    rw [if_pos rfl] at hfun
    by_cases t1 : tv = 1
    case neg =>
      rw [if_neg t1] at hfun
      obtain ⟨rfl, rfl⟩ : z29 = r1 ∧ (4 : Int) = r2 := by simpa using hfun
      have t1b : (tv != 1) = true := bne_iff_ne.mpr t1
      clear hfun t1
      go_wp2_with (go_at_call 43; refine (reader_token.calls k (some ab) cb lb (.slice At lt.length ct) 0 wb.heap.size wb _ _ _ _ HCb.out HCB.out HS0.out HTK.out).mono ?_; rintro e w3 ⟨rfl, hm⟩; have HS := Aside0.mk hm.st; have hg3 : wb.heap.size < w3.heap.size := blk_lt HS.out.blk; clear hm; have HK := Aside0.mk (blk_below HKb.out HS.out.bel); have HB := Aside0.mk (below_step HBb.out HS.out.bel); have HH := Aside0.mk (blk_below HHb.out HS.out.bel); have z0 : w3.cell? ⟨w.heap.size, 0, none⟩ = some (.int .u32 0) := (blk_cell HK.out 0).trans rfl; have f0 : w3.frozen? ⟨w.heap.size, 0, none⟩ = false := blk_frozen HK.out 0; have z1 : w3.cell? ⟨w.heap.size, 1, none⟩ = some (.slice none 0 0) := (blk_cell HK.out 1).trans rfl; have f1 : w3.frozen? ⟨w.heap.size, 1, none⟩ = false := blk_frozen HK.out 1; have z2 : w3.cell? ⟨w.heap.size, 2, none⟩ = some (.string ⟨#[]⟩) := (blk_cell HK.out 2).trans rfl; have f2 : w3.frozen? ⟨w.heap.size, 2, none⟩ = false := blk_frozen HK.out 2; have z3 : w3.cell? ⟨w.heap.size, 3, none⟩ = some (.slice none 0 0) := (blk_cell HK.out 3).trans rfl; have f3 : w3.frozen? ⟨w.heap.size, 3, none⟩ = false := blk_frozen HK.out 3; have z4 : w3.cell? ⟨w.heap.size, 4, none⟩ = some (.slice none 0 0) := (blk_cell HK.out 4).trans rfl; have f4 : w3.frozen? ⟨w.heap.size, 4, none⟩ = false := blk_frozen HK.out 4; have hlt : w.heap.size < w3.heap.size := blk_lt HK.out; have hh2 : w3.cell? ⟨gh, 2, none⟩ = some (.int .u32 h.c2) := (blk_cell HH.out 2).trans rfl; have hh3 : w3.cell? ⟨gh, 3, none⟩ = some (.int .u32 h.c3) := (blk_cell HH.out 3).trans rfl; have hh4 : w3.cell? ⟨gh, 4, none⟩ = some (.int .u32 h.c4) := (blk_cell HH.out 4).trans rfl; have hh7 : w3.cell? ⟨gh, 7, none⟩ = some (.int .u32 h.c7) := (blk_cell HH.out 7).trans rfl; have hh8 : w3.cell? ⟨gh, 8, none⟩ = some (.int .u32 h.c8) := (blk_cell HH.out 8).trans rfl; have hh9 : w3.cell? ⟨gh, 9, none⟩ = some (.int .u32 h.c9) := (blk_cell HH.out 9).trans rfl; have kr0 : w3.cell? ⟨wb.heap.size, 0, none⟩ = some (.slice (some ab) lb.length cb) := (blk_cell HS.out.blk 0).trans rfl)
      refine bodyPost_ret (results_ct rfl _ _ w.heap.size 29 #[.int .u32 0, .slice none 0 0, .string ⟨#[]⟩, .slice none 0 0, .slice none 0 0] (0, 0) _ rfl (by (with_reducible repeat (first | refine blk_alloc ?_ _ | refine blk_drewN ?_ _)); refine blk_put (cs := #[.int .u32 0, .slice none 0 0, .string ⟨#[]⟩, .slice none 0 0, .slice none 0 0]) ?_ 4 _ rfl; (with_reducible repeat (first | refine blk_alloc ?_ _ | refine blk_drewN ?_ _)); refine blk_put (cs := #[.int .u32 0, .slice none 0 0, .string ⟨#[]⟩, .slice none 0 0, .slice none 0 0]) ?_ 3 _ rfl; (with_reducible repeat (first | refine blk_alloc ?_ _ | refine blk_drewN ?_ _)); refine blk_put (cs := #[.int .u32 0, .slice none 0 0, .string ⟨#[]⟩, .slice none 0 0, .slice none 0 0]) ?_ 2 _ rfl; (with_reducible repeat (first | refine blk_alloc ?_ _ | refine blk_drewN ?_ _)); refine blk_put (cs := #[.int .u32 0, .slice none 0 0, .string ⟨#[]⟩, .slice none 0 0, .slice none 0 0]) ?_ 1 _ rfl; (with_reducible repeat (first | refine blk_alloc ?_ _ | refine blk_drewN ?_ _)); refine blk_put (cs := #[.int .u32 0, .slice none 0 0, .string ⟨#[]⟩, .slice none 0 0, .slice none 0 0]) ?_ 0 _ rfl; (with_reducible repeat (first | refine blk_alloc ?_ _ | refine blk_drewN ?_ _)); exact HK.out) Try.underlying29 rfl (by kernel_rfl)) rfl ⟨_, _, _, rfl, Kd.R_nil _ _ _ _ _, Kd.R_nil _ _ _ _ _, Kd.R_nil _ _ _ _ _, ?_⟩
      repeat (first | (with_reducible exact HB.out) | (with_reducible refine below_alloc ?_ _) | (with_reducible refine pw_below_drewN ?_ _) | (refine Below.setCell ?_ (by exact Nat.le_refl _) _))
    subst t1
    rw [if_pos rfl] at hfun
    obtain ⟨⟨x, xe, xq⟩, hnd, hfun⟩ := Option.bind_eq_some_iff.mp hfun
    simp only at hfun
    have HND := Aside0.mk hnd
    clear hnd
    by_cases hxe : xe = 0
    case neg =>
      rw [if_neg hxe] at hfun
      obtain ⟨rfl, rfl⟩ : z29 = r1 ∧ xe = r2 := by simpa using hfun
      have hxb : (xe != 0) = true := bne_iff_ne.mpr hxe
      clear hfun hxe
      go_wp2_with (first | (go_at_call 43; refine (reader_token.calls k (some ab) cb lb (.slice At lt.length ct) 0 wb.heap.size wb _ _ _ _ HCb.out HCB.out HS0.out HTK.out).mono ?_; rintro e w3 ⟨rfl, hm⟩; have HS := Aside0.mk hm.st; have hg3 : wb.heap.size < w3.heap.size := blk_lt HS.out.blk; clear hm; have HK := Aside0.mk (blk_below HKb.out HS.out.bel); have HB := Aside0.mk (below_step HBb.out HS.out.bel); have HH := Aside0.mk (blk_below HHb.out HS.out.bel); have z0 : w3.cell? ⟨w.heap.size, 0, none⟩ = some (.int .u32 0) := (blk_cell HK.out 0).trans rfl; have f0 : w3.frozen? ⟨w.heap.size, 0, none⟩ = false := blk_frozen HK.out 0; have z1 : w3.cell? ⟨w.heap.size, 1, none⟩ = some (.slice none 0 0) := (blk_cell HK.out 1).trans rfl; have f1 : w3.frozen? ⟨w.heap.size, 1, none⟩ = false := blk_frozen HK.out 1; have z2 : w3.cell? ⟨w.heap.size, 2, none⟩ = some (.string ⟨#[]⟩) := (blk_cell HK.out 2).trans rfl; have f2 : w3.frozen? ⟨w.heap.size, 2, none⟩ = false := blk_frozen HK.out 2; have z3 : w3.cell? ⟨w.heap.size, 3, none⟩ = some (.slice none 0 0) := (blk_cell HK.out 3).trans rfl; have f3 : w3.frozen? ⟨w.heap.size, 3, none⟩ = false := blk_frozen HK.out 3; have z4 : w3.cell? ⟨w.heap.size, 4, none⟩ = some (.slice none 0 0) := (blk_cell HK.out 4).trans rfl; have f4 : w3.frozen? ⟨w.heap.size, 4, none⟩ = false := blk_frozen HK.out 4; have hlt : w.heap.size < w3.heap.size := blk_lt HK.out; have hh2 : w3.cell? ⟨gh, 2, none⟩ = some (.int .u32 h.c2) := (blk_cell HH.out 2).trans rfl; have hh3 : w3.cell? ⟨gh, 3, none⟩ = some (.int .u32 h.c3) := (blk_cell HH.out 3).trans rfl; have hh4 : w3.cell? ⟨gh, 4, none⟩ = some (.int .u32 h.c4) := (blk_cell HH.out 4).trans rfl; have hh7 : w3.cell? ⟨gh, 7, none⟩ = some (.int .u32 h.c7) := (blk_cell HH.out 7).trans rfl; have hh8 : w3.cell? ⟨gh, 8, none⟩ = some (.int .u32 h.c8) := (blk_cell HH.out 8).trans rfl; have hh9 : w3.cell? ⟨gh, 9, none⟩ = some (.int .u32 h.c9) := (blk_cell HH.out 9).trans rfl; have kr0 : w3.cell? ⟨wb.heap.size, 0, none⟩ = some (.slice (some ab) lb.length cb) := (blk_cell HS.out.blk 0).trans rfl) | (go_at_call 44; refine (reader_node.calls ab cb lb At ct lt wb.heap.size wb ⟨HCb.out⟩ ⟨HCB.out⟩ ⟨HTb.out⟩ ⟨HCT.out⟩ k tq [] 1 _ _ _ _ _ (HS.out.below (below_alloc (Below.refl _ _) _)) (MapS.made _) HS.out.bel.size (Nat.ne_of_lt (blk_lt HS.out.blk)) HND.out).mono ?_; rintro e w4 ⟨v1, v2, rfl, hop, hr1, hr2⟩; obtain ⟨A1, c1, rfl⟩ := Kd.R_slice hr1; obtain ⟨A2, c2, rfl⟩ := Kd.R_slice hr2; have HR1 := Aside0.mk hr1; have HR2 := Aside0.mk hr2; have HS := Aside0.mk hop.st; clear hop hr1 hr2; have HK := Aside0.mk (blk_below HKb.out HS.out.bel); have HB := Aside0.mk (below_step HBb.out HS.out.bel); have HH := Aside0.mk (blk_below HHb.out HS.out.bel); have z0 : w4.cell? ⟨w.heap.size, 0, none⟩ = some (.int .u32 0) := (blk_cell HK.out 0).trans rfl; have f0 : w4.frozen? ⟨w.heap.size, 0, none⟩ = false := blk_frozen HK.out 0; have z1 : w4.cell? ⟨w.heap.size, 1, none⟩ = some (.slice none 0 0) := (blk_cell HK.out 1).trans rfl; have f1 : w4.frozen? ⟨w.heap.size, 1, none⟩ = false := blk_frozen HK.out 1; have z2 : w4.cell? ⟨w.heap.size, 2, none⟩ = some (.string ⟨#[]⟩) := (blk_cell HK.out 2).trans rfl; have f2 : w4.frozen? ⟨w.heap.size, 2, none⟩ = false := blk_frozen HK.out 2; have z3 : w4.cell? ⟨w.heap.size, 3, none⟩ = some (.slice none 0 0) := (blk_cell HK.out 3).trans rfl; have f3 : w4.frozen? ⟨w.heap.size, 3, none⟩ = false := blk_frozen HK.out 3; have z4 : w4.cell? ⟨w.heap.size, 4, none⟩ = some (.slice none 0 0) := (blk_cell HK.out 4).trans rfl; have f4 : w4.frozen? ⟨w.heap.size, 4, none⟩ = false := blk_frozen HK.out 4; have hlt : w.heap.size < w4.heap.size := blk_lt HK.out; have hh2 : w4.cell? ⟨gh, 2, none⟩ = some (.int .u32 h.c2) := (blk_cell HH.out 2).trans rfl; have hh3 : w4.cell? ⟨gh, 3, none⟩ = some (.int .u32 h.c3) := (blk_cell HH.out 3).trans rfl; have hh4 : w4.cell? ⟨gh, 4, none⟩ = some (.int .u32 h.c4) := (blk_cell HH.out 4).trans rfl; have hh7 : w4.cell? ⟨gh, 7, none⟩ = some (.int .u32 h.c7) := (blk_cell HH.out 7).trans rfl; have hh8 : w4.cell? ⟨gh, 8, none⟩ = some (.int .u32 h.c8) := (blk_cell HH.out 8).trans rfl; have hh9 : w4.cell? ⟨gh, 9, none⟩ = some (.int .u32 h.c9) := (blk_cell HH.out 9).trans rfl; have kr0 : w4.cell? ⟨wb.heap.size, 0, none⟩ = some (.slice (some ab) lb.length cb) := (blk_cell HS.out.blk 0).trans rfl))
      refine bodyPost_ret (results_ct rfl _ _ w.heap.size 29 #[.int .u32 0, .slice none 0 0, .string ⟨#[]⟩, .slice none 0 0, .slice none 0 0] (0, 0) _ rfl (by (with_reducible repeat (first | refine blk_alloc ?_ _ | refine blk_drewN ?_ _)); refine blk_put (cs := #[.int .u32 0, .slice none 0 0, .string ⟨#[]⟩, .slice none 0 0, .slice none 0 0]) ?_ 4 _ rfl; (with_reducible repeat (first | refine blk_alloc ?_ _ | refine blk_drewN ?_ _)); refine blk_put (cs := #[.int .u32 0, .slice none 0 0, .string ⟨#[]⟩, .slice none 0 0, .slice none 0 0]) ?_ 3 _ rfl; (with_reducible repeat (first | refine blk_alloc ?_ _ | refine blk_drewN ?_ _)); refine blk_put (cs := #[.int .u32 0, .slice none 0 0, .string ⟨#[]⟩, .slice none 0 0, .slice none 0 0]) ?_ 2 _ rfl; (with_reducible repeat (first | refine blk_alloc ?_ _ | refine blk_drewN ?_ _)); refine blk_put (cs := #[.int .u32 0, .slice none 0 0, .string ⟨#[]⟩, .slice none 0 0, .slice none 0 0]) ?_ 1 _ rfl; (with_reducible repeat (first | refine blk_alloc ?_ _ | refine blk_drewN ?_ _)); refine blk_put (cs := #[.int .u32 0, .slice none 0 0, .string ⟨#[]⟩, .slice none 0 0, .slice none 0 0]) ?_ 0 _ rfl; (with_reducible repeat (first | refine blk_alloc ?_ _ | refine blk_drewN ?_ _)); exact HK.out) Try.underlying29 rfl (by kernel_rfl)) rfl ⟨_, _, _, rfl, Kd.R_nil _ _ _ _ _, Kd.R_nil _ _ _ _ _, Kd.R_nil _ _ _ _ _, ?_⟩
      repeat (first | (with_reducible exact HB.out) | (with_reducible refine below_alloc ?_ _) | (with_reducible refine pw_below_drewN ?_ _) | (refine Below.setCell ?_ (by exact Nat.le_refl _) _))
    subst hxe
    rw [if_pos rfl] at hfun
    obtain ⟨⟨uv, ub, uq⟩, htk2, hfun⟩ := Option.bind_eq_some_iff.mp hfun
    simp only at hfun
    have HTK2 := Aside0.mk htk2
    clear htk2
    cases ub with
    | false =>
      rw [if_neg (by decide)] at hfun
      obtain ⟨rfl, rfl⟩ : z29 = r1 ∧ (4 : Int) = r2 := by simpa using hfun
      clear hfun
      go_wp2_with (first | (go_at_call 43; refine (reader_token.calls k (some ab) cb lb (.slice At lt.length ct) 0 wb.heap.size wb _ _ _ _ HCb.out HCB.out HS0.out HTK.out).mono ?_; rintro e w3 ⟨rfl, hm⟩; have HS := Aside0.mk hm.st; have hg3 : wb.heap.size < w3.heap.size := blk_lt HS.out.blk; clear hm; have HK := Aside0.mk (blk_below HKb.out HS.out.bel); have HB := Aside0.mk (below_step HBb.out HS.out.bel); have HH := Aside0.mk (blk_below HHb.out HS.out.bel); have z0 : w3.cell? ⟨w.heap.size, 0, none⟩ = some (.int .u32 0) := (blk_cell HK.out 0).trans rfl; have f0 : w3.frozen? ⟨w.heap.size, 0, none⟩ = false := blk_frozen HK.out 0; have z1 : w3.cell? ⟨w.heap.size, 1, none⟩ = some (.slice none 0 0) := (blk_cell HK.out 1).trans rfl; have f1 : w3.frozen? ⟨w.heap.size, 1, none⟩ = false := blk_frozen HK.out 1; have z2 : w3.cell? ⟨w.heap.size, 2, none⟩ = some (.string ⟨#[]⟩) := (blk_cell HK.out 2).trans rfl; have f2 : w3.frozen? ⟨w.heap.size, 2, none⟩ = false := blk_frozen HK.out 2; have z3 : w3.cell? ⟨w.heap.size, 3, none⟩ = some (.slice none 0 0) := (blk_cell HK.out 3).trans rfl; have f3 : w3.frozen? ⟨w.heap.size, 3, none⟩ = false := blk_frozen HK.out 3; have z4 : w3.cell? ⟨w.heap.size, 4, none⟩ = some (.slice none 0 0) := (blk_cell HK.out 4).trans rfl; have f4 : w3.frozen? ⟨w.heap.size, 4, none⟩ = false := blk_frozen HK.out 4; have hlt : w.heap.size < w3.heap.size := blk_lt HK.out; have hh2 : w3.cell? ⟨gh, 2, none⟩ = some (.int .u32 h.c2) := (blk_cell HH.out 2).trans rfl; have hh3 : w3.cell? ⟨gh, 3, none⟩ = some (.int .u32 h.c3) := (blk_cell HH.out 3).trans rfl; have hh4 : w3.cell? ⟨gh, 4, none⟩ = some (.int .u32 h.c4) := (blk_cell HH.out 4).trans rfl; have hh7 : w3.cell? ⟨gh, 7, none⟩ = some (.int .u32 h.c7) := (blk_cell HH.out 7).trans rfl; have hh8 : w3.cell? ⟨gh, 8, none⟩ = some (.int .u32 h.c8) := (blk_cell HH.out 8).trans rfl; have hh9 : w3.cell? ⟨gh, 9, none⟩ = some (.int .u32 h.c9) := (blk_cell HH.out 9).trans rfl; have kr0 : w3.cell? ⟨wb.heap.size, 0, none⟩ = some (.slice (some ab) lb.length cb) := (blk_cell HS.out.blk 0).trans rfl) | (go_at_call 44; refine (reader_node.calls ab cb lb At ct lt wb.heap.size wb ⟨HCb.out⟩ ⟨HCB.out⟩ ⟨HTb.out⟩ ⟨HCT.out⟩ k tq [] 1 _ _ _ _ _ (HS.out.below (below_alloc (Below.refl _ _) _)) (MapS.made _) HS.out.bel.size (Nat.ne_of_lt (blk_lt HS.out.blk)) HND.out).mono ?_; rintro e w4 ⟨v1, v2, rfl, hop, hr1, hr2⟩; obtain ⟨A1, c1, rfl⟩ := Kd.R_slice hr1; obtain ⟨A2, c2, rfl⟩ := Kd.R_slice hr2; have HR1 := Aside0.mk hr1; have HR2 := Aside0.mk hr2; have HS := Aside0.mk hop.st; clear hop hr1 hr2; have HK := Aside0.mk (blk_below HKb.out HS.out.bel); have HB := Aside0.mk (below_step HBb.out HS.out.bel); have HH := Aside0.mk (blk_below HHb.out HS.out.bel); have z0 : w4.cell? ⟨w.heap.size, 0, none⟩ = some (.int .u32 0) := (blk_cell HK.out 0).trans rfl; have f0 : w4.frozen? ⟨w.heap.size, 0, none⟩ = false := blk_frozen HK.out 0; have z1 : w4.cell? ⟨w.heap.size, 1, none⟩ = some (.slice none 0 0) := (blk_cell HK.out 1).trans rfl; have f1 : w4.frozen? ⟨w.heap.size, 1, none⟩ = false := blk_frozen HK.out 1; have z2 : w4.cell? ⟨w.heap.size, 2, none⟩ = some (.string ⟨#[]⟩) := (blk_cell HK.out 2).trans rfl; have f2 : w4.frozen? ⟨w.heap.size, 2, none⟩ = false := blk_frozen HK.out 2; have z3 : w4.cell? ⟨w.heap.size, 3, none⟩ = some (.slice none 0 0) := (blk_cell HK.out 3).trans rfl; have f3 : w4.frozen? ⟨w.heap.size, 3, none⟩ = false := blk_frozen HK.out 3; have z4 : w4.cell? ⟨w.heap.size, 4, none⟩ = some (.slice none 0 0) := (blk_cell HK.out 4).trans rfl; have f4 : w4.frozen? ⟨w.heap.size, 4, none⟩ = false := blk_frozen HK.out 4; have hlt : w.heap.size < w4.heap.size := blk_lt HK.out; have hh2 : w4.cell? ⟨gh, 2, none⟩ = some (.int .u32 h.c2) := (blk_cell HH.out 2).trans rfl; have hh3 : w4.cell? ⟨gh, 3, none⟩ = some (.int .u32 h.c3) := (blk_cell HH.out 3).trans rfl; have hh4 : w4.cell? ⟨gh, 4, none⟩ = some (.int .u32 h.c4) := (blk_cell HH.out 4).trans rfl; have hh7 : w4.cell? ⟨gh, 7, none⟩ = some (.int .u32 h.c7) := (blk_cell HH.out 7).trans rfl; have hh8 : w4.cell? ⟨gh, 8, none⟩ = some (.int .u32 h.c8) := (blk_cell HH.out 8).trans rfl; have hh9 : w4.cell? ⟨gh, 9, none⟩ = some (.int .u32 h.c9) := (blk_cell HH.out 9).trans rfl; have kr0 : w4.cell? ⟨wb.heap.size, 0, none⟩ = some (.slice (some ab) lb.length cb) := (blk_cell HS.out.blk 0).trans rfl) | (go_at_call 43; refine (reader_token.calls k (some ab) cb lb (.slice At lt.length ct) _ wb.heap.size wb _ _ _ _ HCb.out HCB.out (HS.out.below (below_alloc (Below.refl _ _) _)) HTK2.out).mono ?_; rintro e w5 ⟨rfl, hm⟩; have HN5 := Aside0.mk (blk_kept (blk_new w4 (.cells #[.string x.f0, .slice A1 x.f1.length c1, .slice A2 x.f2.length c2] 27 (0, 0))) hm.kept (fun e => Nat.ne_of_gt (blk_lt HS.out.blk) e)); have HR1 := Aside0.mk (R_keptg (Kd.R_below HR1.out (below_alloc (Below.refl _ _) _)) hm.kept (by simp; omega)); have HR2 := Aside0.mk (R_keptg (Kd.R_below HR2.out (below_alloc (Below.refl _ _) _)) hm.kept (by simp; omega)); have HS := Aside0.mk hm.st; clear hm; have HK := Aside0.mk (blk_below HKb.out HS.out.bel); have HB := Aside0.mk (below_step HBb.out HS.out.bel); have HH := Aside0.mk (blk_below HHb.out HS.out.bel); have z0 : w5.cell? ⟨w.heap.size, 0, none⟩ = some (.int .u32 0) := (blk_cell HK.out 0).trans rfl; have f0 : w5.frozen? ⟨w.heap.size, 0, none⟩ = false := blk_frozen HK.out 0; have z1 : w5.cell? ⟨w.heap.size, 1, none⟩ = some (.slice none 0 0) := (blk_cell HK.out 1).trans rfl; have f1 : w5.frozen? ⟨w.heap.size, 1, none⟩ = false := blk_frozen HK.out 1; have z2 : w5.cell? ⟨w.heap.size, 2, none⟩ = some (.string ⟨#[]⟩) := (blk_cell HK.out 2).trans rfl; have f2 : w5.frozen? ⟨w.heap.size, 2, none⟩ = false := blk_frozen HK.out 2; have z3 : w5.cell? ⟨w.heap.size, 3, none⟩ = some (.slice none 0 0) := (blk_cell HK.out 3).trans rfl; have f3 : w5.frozen? ⟨w.heap.size, 3, none⟩ = false := blk_frozen HK.out 3; have z4 : w5.cell? ⟨w.heap.size, 4, none⟩ = some (.slice none 0 0) := (blk_cell HK.out 4).trans rfl; have f4 : w5.frozen? ⟨w.heap.size, 4, none⟩ = false := blk_frozen HK.out 4; have hlt : w.heap.size < w5.heap.size := blk_lt HK.out; have hh2 : w5.cell? ⟨gh, 2, none⟩ = some (.int .u32 h.c2) := (blk_cell HH.out 2).trans rfl; have hh3 : w5.cell? ⟨gh, 3, none⟩ = some (.int .u32 h.c3) := (blk_cell HH.out 3).trans rfl; have hh4 : w5.cell? ⟨gh, 4, none⟩ = some (.int .u32 h.c4) := (blk_cell HH.out 4).trans rfl; have hh7 : w5.cell? ⟨gh, 7, none⟩ = some (.int .u32 h.c7) := (blk_cell HH.out 7).trans rfl; have hh8 : w5.cell? ⟨gh, 8, none⟩ = some (.int .u32 h.c8) := (blk_cell HH.out 8).trans rfl; have hh9 : w5.cell? ⟨gh, 9, none⟩ = some (.int .u32 h.c9) := (blk_cell HH.out 9).trans rfl; have kr0 : w5.cell? ⟨wb.heap.size, 0, none⟩ = some (.slice (some ab) lb.length cb) := (blk_cell HS.out.blk 0).trans rfl; have kr2 : w5.cell? ⟨wb.heap.size, 2, none⟩ = some (.int .i64 uq) := (blk_cell HS.out.blk 2).trans rfl; have kn0 : w5.cell? ⟨w4.heap.size, 0, none⟩ = some (.string x.f0) := (blk_cell HN5.out 0).trans rfl; have kn1 : w5.cell? ⟨w4.heap.size, 1, none⟩ = some (.slice A1 x.f1.length c1) := (blk_cell HN5.out 1).trans rfl; have kn2 : w5.cell? ⟨w4.heap.size, 2, none⟩ = some (.slice A2 x.f2.length c2) := (blk_cell HN5.out 2).trans rfl))
      go_quiet (fail)
      go_wp2
      refine bodyPost_ret (results_ct rfl _ _ w.heap.size 29 #[.int .u32 0, .slice none 0 0, .string ⟨#[]⟩, .slice none 0 0, .slice none 0 0] (0, 0) _ rfl (by (with_reducible repeat (first | refine blk_alloc ?_ _ | refine blk_drewN ?_ _)); refine blk_put (cs := #[.int .u32 0, .slice none 0 0, .string ⟨#[]⟩, .slice none 0 0, .slice none 0 0]) ?_ 4 _ rfl; (with_reducible repeat (first | refine blk_alloc ?_ _ | refine blk_drewN ?_ _)); refine blk_put (cs := #[.int .u32 0, .slice none 0 0, .string ⟨#[]⟩, .slice none 0 0, .slice none 0 0]) ?_ 3 _ rfl; (with_reducible repeat (first | refine blk_alloc ?_ _ | refine blk_drewN ?_ _)); refine blk_put (cs := #[.int .u32 0, .slice none 0 0, .string ⟨#[]⟩, .slice none 0 0, .slice none 0 0]) ?_ 2 _ rfl; (with_reducible repeat (first | refine blk_alloc ?_ _ | refine blk_drewN ?_ _)); refine blk_put (cs := #[.int .u32 0, .slice none 0 0, .string ⟨#[]⟩, .slice none 0 0, .slice none 0 0]) ?_ 1 _ rfl; (with_reducible repeat (first | refine blk_alloc ?_ _ | refine blk_drewN ?_ _)); refine blk_put (cs := #[.int .u32 0, .slice none 0 0, .string ⟨#[]⟩, .slice none 0 0, .slice none 0 0]) ?_ 0 _ rfl; (with_reducible repeat (first | refine blk_alloc ?_ _ | refine blk_drewN ?_ _)); exact HK.out) Try.underlying29 rfl (by kernel_rfl)) rfl ⟨_, _, _, rfl, Kd.R_nil _ _ _ _ _, Kd.R_nil _ _ _ _ _, Kd.R_nil _ _ _ _ _, ?_⟩
      repeat (first | (with_reducible exact HB.out) | (with_reducible refine below_alloc ?_ _) | (with_reducible refine pw_below_drewN ?_ _) | (refine Below.setCell ?_ (by exact Nat.le_refl _) _))
    | true =>
      rw [if_pos rfl] at hfun
      by_cases u9 : uv = 9
      case neg =>
        rw [if_neg u9] at hfun
        obtain ⟨rfl, rfl⟩ : z29 = r1 ∧ (4 : Int) = r2 := by simpa using hfun
        have u9b : (uv != 9) = true := bne_iff_ne.mpr u9
        clear hfun u9
        go_wp2_with (first | (go_at_call 43; refine (reader_token.calls k (some ab) cb lb (.slice At lt.length ct) 0 wb.heap.size wb _ _ _ _ HCb.out HCB.out HS0.out HTK.out).mono ?_; rintro e w3 ⟨rfl, hm⟩; have HS := Aside0.mk hm.st; have hg3 : wb.heap.size < w3.heap.size := blk_lt HS.out.blk; clear hm; have HK := Aside0.mk (blk_below HKb.out HS.out.bel); have HB := Aside0.mk (below_step HBb.out HS.out.bel); have HH := Aside0.mk (blk_below HHb.out HS.out.bel); have z0 : w3.cell? ⟨w.heap.size, 0, none⟩ = some (.int .u32 0) := (blk_cell HK.out 0).trans rfl; have f0 : w3.frozen? ⟨w.heap.size, 0, none⟩ = false := blk_frozen HK.out 0; have z1 : w3.cell? ⟨w.heap.size, 1, none⟩ = some (.slice none 0 0) := (blk_cell HK.out 1).trans rfl; have f1 : w3.frozen? ⟨w.heap.size, 1, none⟩ = false := blk_frozen HK.out 1; have z2 : w3.cell? ⟨w.heap.size, 2, none⟩ = some (.string ⟨#[]⟩) := (blk_cell HK.out 2).trans rfl; have f2 : w3.frozen? ⟨w.heap.size, 2, none⟩ = false := blk_frozen HK.out 2; have z3 : w3.cell? ⟨w.heap.size, 3, none⟩ = some (.slice none 0 0) := (blk_cell HK.out 3).trans rfl; have f3 : w3.frozen? ⟨w.heap.size, 3, none⟩ = false := blk_frozen HK.out 3; have z4 : w3.cell? ⟨w.heap.size, 4, none⟩ = some (.slice none 0 0) := (blk_cell HK.out 4).trans rfl; have f4 : w3.frozen? ⟨w.heap.size, 4, none⟩ = false := blk_frozen HK.out 4; have hlt : w.heap.size < w3.heap.size := blk_lt HK.out; have hh2 : w3.cell? ⟨gh, 2, none⟩ = some (.int .u32 h.c2) := (blk_cell HH.out 2).trans rfl; have hh3 : w3.cell? ⟨gh, 3, none⟩ = some (.int .u32 h.c3) := (blk_cell HH.out 3).trans rfl; have hh4 : w3.cell? ⟨gh, 4, none⟩ = some (.int .u32 h.c4) := (blk_cell HH.out 4).trans rfl; have hh7 : w3.cell? ⟨gh, 7, none⟩ = some (.int .u32 h.c7) := (blk_cell HH.out 7).trans rfl; have hh8 : w3.cell? ⟨gh, 8, none⟩ = some (.int .u32 h.c8) := (blk_cell HH.out 8).trans rfl; have hh9 : w3.cell? ⟨gh, 9, none⟩ = some (.int .u32 h.c9) := (blk_cell HH.out 9).trans rfl; have kr0 : w3.cell? ⟨wb.heap.size, 0, none⟩ = some (.slice (some ab) lb.length cb) := (blk_cell HS.out.blk 0).trans rfl) | (go_at_call 44; refine (reader_node.calls ab cb lb At ct lt wb.heap.size wb ⟨HCb.out⟩ ⟨HCB.out⟩ ⟨HTb.out⟩ ⟨HCT.out⟩ k tq [] 1 _ _ _ _ _ (HS.out.below (below_alloc (Below.refl _ _) _)) (MapS.made _) HS.out.bel.size (Nat.ne_of_lt (blk_lt HS.out.blk)) HND.out).mono ?_; rintro e w4 ⟨v1, v2, rfl, hop, hr1, hr2⟩; obtain ⟨A1, c1, rfl⟩ := Kd.R_slice hr1; obtain ⟨A2, c2, rfl⟩ := Kd.R_slice hr2; have HR1 := Aside0.mk hr1; have HR2 := Aside0.mk hr2; have HS := Aside0.mk hop.st; clear hop hr1 hr2; have HK := Aside0.mk (blk_below HKb.out HS.out.bel); have HB := Aside0.mk (below_step HBb.out HS.out.bel); have HH := Aside0.mk (blk_below HHb.out HS.out.bel); have z0 : w4.cell? ⟨w.heap.size, 0, none⟩ = some (.int .u32 0) := (blk_cell HK.out 0).trans rfl; have f0 : w4.frozen? ⟨w.heap.size, 0, none⟩ = false := blk_frozen HK.out 0; have z1 : w4.cell? ⟨w.heap.size, 1, none⟩ = some (.slice none 0 0) := (blk_cell HK.out 1).trans rfl; have f1 : w4.frozen? ⟨w.heap.size, 1, none⟩ = false := blk_frozen HK.out 1; have z2 : w4.cell? ⟨w.heap.size, 2, none⟩ = some (.string ⟨#[]⟩) := (blk_cell HK.out 2).trans rfl; have f2 : w4.frozen? ⟨w.heap.size, 2, none⟩ = false := blk_frozen HK.out 2; have z3 : w4.cell? ⟨w.heap.size, 3, none⟩ = some (.slice none 0 0) := (blk_cell HK.out 3).trans rfl; have f3 : w4.frozen? ⟨w.heap.size, 3, none⟩ = false := blk_frozen HK.out 3; have z4 : w4.cell? ⟨w.heap.size, 4, none⟩ = some (.slice none 0 0) := (blk_cell HK.out 4).trans rfl; have f4 : w4.frozen? ⟨w.heap.size, 4, none⟩ = false := blk_frozen HK.out 4; have hlt : w.heap.size < w4.heap.size := blk_lt HK.out; have hh2 : w4.cell? ⟨gh, 2, none⟩ = some (.int .u32 h.c2) := (blk_cell HH.out 2).trans rfl; have hh3 : w4.cell? ⟨gh, 3, none⟩ = some (.int .u32 h.c3) := (blk_cell HH.out 3).trans rfl; have hh4 : w4.cell? ⟨gh, 4, none⟩ = some (.int .u32 h.c4) := (blk_cell HH.out 4).trans rfl; have hh7 : w4.cell? ⟨gh, 7, none⟩ = some (.int .u32 h.c7) := (blk_cell HH.out 7).trans rfl; have hh8 : w4.cell? ⟨gh, 8, none⟩ = some (.int .u32 h.c8) := (blk_cell HH.out 8).trans rfl; have hh9 : w4.cell? ⟨gh, 9, none⟩ = some (.int .u32 h.c9) := (blk_cell HH.out 9).trans rfl; have kr0 : w4.cell? ⟨wb.heap.size, 0, none⟩ = some (.slice (some ab) lb.length cb) := (blk_cell HS.out.blk 0).trans rfl) | (go_at_call 43; refine (reader_token.calls k (some ab) cb lb (.slice At lt.length ct) _ wb.heap.size wb _ _ _ _ HCb.out HCB.out (HS.out.below (below_alloc (Below.refl _ _) _)) HTK2.out).mono ?_; rintro e w5 ⟨rfl, hm⟩; have HN5 := Aside0.mk (blk_kept (blk_new w4 (.cells #[.string x.f0, .slice A1 x.f1.length c1, .slice A2 x.f2.length c2] 27 (0, 0))) hm.kept (fun e => Nat.ne_of_gt (blk_lt HS.out.blk) e)); have HR1 := Aside0.mk (R_keptg (Kd.R_below HR1.out (below_alloc (Below.refl _ _) _)) hm.kept (by simp; omega)); have HR2 := Aside0.mk (R_keptg (Kd.R_below HR2.out (below_alloc (Below.refl _ _) _)) hm.kept (by simp; omega)); have HS := Aside0.mk hm.st; clear hm; have HK := Aside0.mk (blk_below HKb.out HS.out.bel); have HB := Aside0.mk (below_step HBb.out HS.out.bel); have HH := Aside0.mk (blk_below HHb.out HS.out.bel); have z0 : w5.cell? ⟨w.heap.size, 0, none⟩ = some (.int .u32 0) := (blk_cell HK.out 0).trans rfl; have f0 : w5.frozen? ⟨w.heap.size, 0, none⟩ = false := blk_frozen HK.out 0; have z1 : w5.cell? ⟨w.heap.size, 1, none⟩ = some (.slice none 0 0) := (blk_cell HK.out 1).trans rfl; have f1 : w5.frozen? ⟨w.heap.size, 1, none⟩ = false := blk_frozen HK.out 1; have z2 : w5.cell? ⟨w.heap.size, 2, none⟩ = some (.string ⟨#[]⟩) := (blk_cell HK.out 2).trans rfl; have f2 : w5.frozen? ⟨w.heap.size, 2, none⟩ = false := blk_frozen HK.out 2; have z3 : w5.cell? ⟨w.heap.size, 3, none⟩ = some (.slice none 0 0) := (blk_cell HK.out 3).trans rfl; have f3 : w5.frozen? ⟨w.heap.size, 3, none⟩ = false := blk_frozen HK.out 3; have z4 : w5.cell? ⟨w.heap.size, 4, none⟩ = some (.slice none 0 0) := (blk_cell HK.out 4).trans rfl; have f4 : w5.frozen? ⟨w.heap.size, 4, none⟩ = false := blk_frozen HK.out 4; have hlt : w.heap.size < w5.heap.size := blk_lt HK.out; have hh2 : w5.cell? ⟨gh, 2, none⟩ = some (.int .u32 h.c2) := (blk_cell HH.out 2).trans rfl; have hh3 : w5.cell? ⟨gh, 3, none⟩ = some (.int .u32 h.c3) := (blk_cell HH.out 3).trans rfl; have hh4 : w5.cell? ⟨gh, 4, none⟩ = some (.int .u32 h.c4) := (blk_cell HH.out 4).trans rfl; have hh7 : w5.cell? ⟨gh, 7, none⟩ = some (.int .u32 h.c7) := (blk_cell HH.out 7).trans rfl; have hh8 : w5.cell? ⟨gh, 8, none⟩ = some (.int .u32 h.c8) := (blk_cell HH.out 8).trans rfl; have hh9 : w5.cell? ⟨gh, 9, none⟩ = some (.int .u32 h.c9) := (blk_cell HH.out 9).trans rfl; have kr0 : w5.cell? ⟨wb.heap.size, 0, none⟩ = some (.slice (some ab) lb.length cb) := (blk_cell HS.out.blk 0).trans rfl; have kr2 : w5.cell? ⟨wb.heap.size, 2, none⟩ = some (.int .i64 uq) := (blk_cell HS.out.blk 2).trans rfl; have kn0 : w5.cell? ⟨w4.heap.size, 0, none⟩ = some (.string x.f0) := (blk_cell HN5.out 0).trans rfl; have kn1 : w5.cell? ⟨w4.heap.size, 1, none⟩ = some (.slice A1 x.f1.length c1) := (blk_cell HN5.out 1).trans rfl; have kn2 : w5.cell? ⟨w4.heap.size, 2, none⟩ = some (.slice A2 x.f2.length c2) := (blk_cell HN5.out 2).trans rfl))
        go_quiet (fail)
        go_wp2
        refine bodyPost_ret (results_ct rfl _ _ w.heap.size 29 #[.int .u32 0, .slice none 0 0, .string ⟨#[]⟩, .slice none 0 0, .slice none 0 0] (0, 0) _ rfl (by (with_reducible repeat (first | refine blk_alloc ?_ _ | refine blk_drewN ?_ _)); refine blk_put (cs := #[.int .u32 0, .slice none 0 0, .string ⟨#[]⟩, .slice none 0 0, .slice none 0 0]) ?_ 4 _ rfl; (with_reducible repeat (first | refine blk_alloc ?_ _ | refine blk_drewN ?_ _)); refine blk_put (cs := #[.int .u32 0, .slice none 0 0, .string ⟨#[]⟩, .slice none 0 0, .slice none 0 0]) ?_ 3 _ rfl; (with_reducible repeat (first | refine blk_alloc ?_ _ | refine blk_drewN ?_ _)); refine blk_put (cs := #[.int .u32 0, .slice none 0 0, .string ⟨#[]⟩, .slice none 0 0, .slice none 0 0]) ?_ 2 _ rfl; (with_reducible repeat (first | refine blk_alloc ?_ _ | refine blk_drewN ?_ _)); refine blk_put (cs := #[.int .u32 0, .slice none 0 0, .string ⟨#[]⟩, .slice none 0 0, .slice none 0 0]) ?_ 1 _ rfl; (with_reducible repeat (first | refine blk_alloc ?_ _ | refine blk_drewN ?_ _)); refine blk_put (cs := #[.int .u32 0, .slice none 0 0, .string ⟨#[]⟩, .slice none 0 0, .slice none 0 0]) ?_ 0 _ rfl; (with_reducible repeat (first | refine blk_alloc ?_ _ | refine blk_drewN ?_ _)); exact HK.out) Try.underlying29 rfl (by kernel_rfl)) rfl ⟨_, _, _, rfl, Kd.R_nil _ _ _ _ _, Kd.R_nil _ _ _ _ _, Kd.R_nil _ _ _ _ _, ?_⟩
        repeat (first | (with_reducible exact HB.out) | (with_reducible refine below_alloc ?_ _) | (with_reducible refine pw_below_drewN ?_ _) | (refine Below.setCell ?_ (by exact Nat.le_refl _) _))
      subst u9
      rw [if_pos rfl] at hfun
      by_cases uo : uq = (lb.length : Int)
      case neg =>
        rw [if_neg uo] at hfun
        obtain ⟨rfl, rfl⟩ : z29 = r1 ∧ (4 : Int) = r2 := by simpa using hfun
        have uob : (uq != (lb.length : Int)) = true := bne_iff_ne.mpr uo
        clear hfun uo
        go_wp2_with (first | (go_at_call 43; refine (reader_token.calls k (some ab) cb lb (.slice At lt.length ct) 0 wb.heap.size wb _ _ _ _ HCb.out HCB.out HS0.out HTK.out).mono ?_; rintro e w3 ⟨rfl, hm⟩; have HS := Aside0.mk hm.st; have hg3 : wb.heap.size < w3.heap.size := blk_lt HS.out.blk; clear hm; have HK := Aside0.mk (blk_below HKb.out HS.out.bel); have HB := Aside0.mk (below_step HBb.out HS.out.bel); have HH := Aside0.mk (blk_below HHb.out HS.out.bel); have z0 : w3.cell? ⟨w.heap.size, 0, none⟩ = some (.int .u32 0) := (blk_cell HK.out 0).trans rfl; have f0 : w3.frozen? ⟨w.heap.size, 0, none⟩ = false := blk_frozen HK.out 0; have z1 : w3.cell? ⟨w.heap.size, 1, none⟩ = some (.slice none 0 0) := (blk_cell HK.out 1).trans rfl; have f1 : w3.frozen? ⟨w.heap.size, 1, none⟩ = false := blk_frozen HK.out 1; have z2 : w3.cell? ⟨w.heap.size, 2, none⟩ = some (.string ⟨#[]⟩) := (blk_cell HK.out 2).trans rfl; have f2 : w3.frozen? ⟨w.heap.size, 2, none⟩ = false := blk_frozen HK.out 2; have z3 : w3.cell? ⟨w.heap.size, 3, none⟩ = some (.slice none 0 0) := (blk_cell HK.out 3).trans rfl; have f3 : w3.frozen? ⟨w.heap.size, 3, none⟩ = false := blk_frozen HK.out 3; have z4 : w3.cell? ⟨w.heap.size, 4, none⟩ = some (.slice none 0 0) := (blk_cell HK.out 4).trans rfl; have f4 : w3.frozen? ⟨w.heap.size, 4, none⟩ = false := blk_frozen HK.out 4; have hlt : w.heap.size < w3.heap.size := blk_lt HK.out; have hh2 : w3.cell? ⟨gh, 2, none⟩ = some (.int .u32 h.c2) := (blk_cell HH.out 2).trans rfl; have hh3 : w3.cell? ⟨gh, 3, none⟩ = some (.int .u32 h.c3) := (blk_cell HH.out 3).trans rfl; have hh4 : w3.cell? ⟨gh, 4, none⟩ = some (.int .u32 h.c4) := (blk_cell HH.out 4).trans rfl; have hh7 : w3.cell? ⟨gh, 7, none⟩ = some (.int .u32 h.c7) := (blk_cell HH.out 7).trans rfl; have hh8 : w3.cell? ⟨gh, 8, none⟩ = some (.int .u32 h.c8) := (blk_cell HH.out 8).trans rfl; have hh9 : w3.cell? ⟨gh, 9, none⟩ = some (.int .u32 h.c9) := (blk_cell HH.out 9).trans rfl; have kr0 : w3.cell? ⟨wb.heap.size, 0, none⟩ = some (.slice (some ab) lb.length cb) := (blk_cell HS.out.blk 0).trans rfl) | (go_at_call 44; refine (reader_node.calls ab cb lb At ct lt wb.heap.size wb ⟨HCb.out⟩ ⟨HCB.out⟩ ⟨HTb.out⟩ ⟨HCT.out⟩ k tq [] 1 _ _ _ _ _ (HS.out.below (below_alloc (Below.refl _ _) _)) (MapS.made _) HS.out.bel.size (Nat.ne_of_lt (blk_lt HS.out.blk)) HND.out).mono ?_; rintro e w4 ⟨v1, v2, rfl, hop, hr1, hr2⟩; obtain ⟨A1, c1, rfl⟩ := Kd.R_slice hr1; obtain ⟨A2, c2, rfl⟩ := Kd.R_slice hr2; have HR1 := Aside0.mk hr1; have HR2 := Aside0.mk hr2; have HS := Aside0.mk hop.st; clear hop hr1 hr2; have HK := Aside0.mk (blk_below HKb.out HS.out.bel); have HB := Aside0.mk (below_step HBb.out HS.out.bel); have HH := Aside0.mk (blk_below HHb.out HS.out.bel); have z0 : w4.cell? ⟨w.heap.size, 0, none⟩ = some (.int .u32 0) := (blk_cell HK.out 0).trans rfl; have f0 : w4.frozen? ⟨w.heap.size, 0, none⟩ = false := blk_frozen HK.out 0; have z1 : w4.cell? ⟨w.heap.size, 1, none⟩ = some (.slice none 0 0) := (blk_cell HK.out 1).trans rfl; have f1 : w4.frozen? ⟨w.heap.size, 1, none⟩ = false := blk_frozen HK.out 1; have z2 : w4.cell? ⟨w.heap.size, 2, none⟩ = some (.string ⟨#[]⟩) := (blk_cell HK.out 2).trans rfl; have f2 : w4.frozen? ⟨w.heap.size, 2, none⟩ = false := blk_frozen HK.out 2; have z3 : w4.cell? ⟨w.heap.size, 3, none⟩ = some (.slice none 0 0) := (blk_cell HK.out 3).trans rfl; have f3 : w4.frozen? ⟨w.heap.size, 3, none⟩ = false := blk_frozen HK.out 3; have z4 : w4.cell? ⟨w.heap.size, 4, none⟩ = some (.slice none 0 0) := (blk_cell HK.out 4).trans rfl; have f4 : w4.frozen? ⟨w.heap.size, 4, none⟩ = false := blk_frozen HK.out 4; have hlt : w.heap.size < w4.heap.size := blk_lt HK.out; have hh2 : w4.cell? ⟨gh, 2, none⟩ = some (.int .u32 h.c2) := (blk_cell HH.out 2).trans rfl; have hh3 : w4.cell? ⟨gh, 3, none⟩ = some (.int .u32 h.c3) := (blk_cell HH.out 3).trans rfl; have hh4 : w4.cell? ⟨gh, 4, none⟩ = some (.int .u32 h.c4) := (blk_cell HH.out 4).trans rfl; have hh7 : w4.cell? ⟨gh, 7, none⟩ = some (.int .u32 h.c7) := (blk_cell HH.out 7).trans rfl; have hh8 : w4.cell? ⟨gh, 8, none⟩ = some (.int .u32 h.c8) := (blk_cell HH.out 8).trans rfl; have hh9 : w4.cell? ⟨gh, 9, none⟩ = some (.int .u32 h.c9) := (blk_cell HH.out 9).trans rfl; have kr0 : w4.cell? ⟨wb.heap.size, 0, none⟩ = some (.slice (some ab) lb.length cb) := (blk_cell HS.out.blk 0).trans rfl) | (go_at_call 43; refine (reader_token.calls k (some ab) cb lb (.slice At lt.length ct) _ wb.heap.size wb _ _ _ _ HCb.out HCB.out (HS.out.below (below_alloc (Below.refl _ _) _)) HTK2.out).mono ?_; rintro e w5 ⟨rfl, hm⟩; have HN5 := Aside0.mk (blk_kept (blk_new w4 (.cells #[.string x.f0, .slice A1 x.f1.length c1, .slice A2 x.f2.length c2] 27 (0, 0))) hm.kept (fun e => Nat.ne_of_gt (blk_lt HS.out.blk) e)); have HR1 := Aside0.mk (R_keptg (Kd.R_below HR1.out (below_alloc (Below.refl _ _) _)) hm.kept (by simp; omega)); have HR2 := Aside0.mk (R_keptg (Kd.R_below HR2.out (below_alloc (Below.refl _ _) _)) hm.kept (by simp; omega)); have HS := Aside0.mk hm.st; clear hm; have HK := Aside0.mk (blk_below HKb.out HS.out.bel); have HB := Aside0.mk (below_step HBb.out HS.out.bel); have HH := Aside0.mk (blk_below HHb.out HS.out.bel); have z0 : w5.cell? ⟨w.heap.size, 0, none⟩ = some (.int .u32 0) := (blk_cell HK.out 0).trans rfl; have f0 : w5.frozen? ⟨w.heap.size, 0, none⟩ = false := blk_frozen HK.out 0; have z1 : w5.cell? ⟨w.heap.size, 1, none⟩ = some (.slice none 0 0) := (blk_cell HK.out 1).trans rfl; have f1 : w5.frozen? ⟨w.heap.size, 1, none⟩ = false := blk_frozen HK.out 1; have z2 : w5.cell? ⟨w.heap.size, 2, none⟩ = some (.string ⟨#[]⟩) := (blk_cell HK.out 2).trans rfl; have f2 : w5.frozen? ⟨w.heap.size, 2, none⟩ = false := blk_frozen HK.out 2; have z3 : w5.cell? ⟨w.heap.size, 3, none⟩ = some (.slice none 0 0) := (blk_cell HK.out 3).trans rfl; have f3 : w5.frozen? ⟨w.heap.size, 3, none⟩ = false := blk_frozen HK.out 3; have z4 : w5.cell? ⟨w.heap.size, 4, none⟩ = some (.slice none 0 0) := (blk_cell HK.out 4).trans rfl; have f4 : w5.frozen? ⟨w.heap.size, 4, none⟩ = false := blk_frozen HK.out 4; have hlt : w.heap.size < w5.heap.size := blk_lt HK.out; have hh2 : w5.cell? ⟨gh, 2, none⟩ = some (.int .u32 h.c2) := (blk_cell HH.out 2).trans rfl; have hh3 : w5.cell? ⟨gh, 3, none⟩ = some (.int .u32 h.c3) := (blk_cell HH.out 3).trans rfl; have hh4 : w5.cell? ⟨gh, 4, none⟩ = some (.int .u32 h.c4) := (blk_cell HH.out 4).trans rfl; have hh7 : w5.cell? ⟨gh, 7, none⟩ = some (.int .u32 h.c7) := (blk_cell HH.out 7).trans rfl; have hh8 : w5.cell? ⟨gh, 8, none⟩ = some (.int .u32 h.c8) := (blk_cell HH.out 8).trans rfl; have hh9 : w5.cell? ⟨gh, 9, none⟩ = some (.int .u32 h.c9) := (blk_cell HH.out 9).trans rfl; have kr0 : w5.cell? ⟨wb.heap.size, 0, none⟩ = some (.slice (some ab) lb.length cb) := (blk_cell HS.out.blk 0).trans rfl; have kr2 : w5.cell? ⟨wb.heap.size, 2, none⟩ = some (.int .i64 uq) := (blk_cell HS.out.blk 2).trans rfl; have kn0 : w5.cell? ⟨w4.heap.size, 0, none⟩ = some (.string x.f0) := (blk_cell HN5.out 0).trans rfl; have kn1 : w5.cell? ⟨w4.heap.size, 1, none⟩ = some (.slice A1 x.f1.length c1) := (blk_cell HN5.out 1).trans rfl; have kn2 : w5.cell? ⟨w4.heap.size, 2, none⟩ = some (.slice A2 x.f2.length c2) := (blk_cell HN5.out 2).trans rfl))
        go_quiet (fail)
        go_wp2
        refine bodyPost_ret (results_ct rfl _ _ w.heap.size 29 #[.int .u32 0, .slice none 0 0, .string ⟨#[]⟩, .slice none 0 0, .slice none 0 0] (0, 0) _ rfl (by (with_reducible repeat (first | refine blk_alloc ?_ _ | refine blk_drewN ?_ _)); refine blk_put (cs := #[.int .u32 0, .slice none 0 0, .string ⟨#[]⟩, .slice none 0 0, .slice none 0 0]) ?_ 4 _ rfl; (with_reducible repeat (first | refine blk_alloc ?_ _ | refine blk_drewN ?_ _)); refine blk_put (cs := #[.int .u32 0, .slice none 0 0, .string ⟨#[]⟩, .slice none 0 0, .slice none 0 0]) ?_ 3 _ rfl; (with_reducible repeat (first | refine blk_alloc ?_ _ | refine blk_drewN ?_ _)); refine blk_put (cs := #[.int .u32 0, .slice none 0 0, .string ⟨#[]⟩, .slice none 0 0, .slice none 0 0]) ?_ 2 _ rfl; (with_reducible repeat (first | refine blk_alloc ?_ _ | refine blk_drewN ?_ _)); refine blk_put (cs := #[.int .u32 0, .slice none 0 0, .string ⟨#[]⟩, .slice none 0 0, .slice none 0 0]) ?_ 1 _ rfl; (with_reducible repeat (first | refine blk_alloc ?_ _ | refine blk_drewN ?_ _)); refine blk_put (cs := #[.int .u32 0, .slice none 0 0, .string ⟨#[]⟩, .slice none 0 0, .slice none 0 0]) ?_ 0 _ rfl; (with_reducible repeat (first | refine blk_alloc ?_ _ | refine blk_drewN ?_ _)); exact HK.out) Try.underlying29 rfl (by kernel_rfl)) rfl ⟨_, _, _, rfl, Kd.R_nil _ _ _ _ _, Kd.R_nil _ _ _ _ _, Kd.R_nil _ _ _ _ _, ?_⟩
        repeat (first | (with_reducible exact HB.out) | (with_reducible refine below_alloc ?_ _) | (with_reducible refine pw_below_drewN ?_ _) | (refine Below.setCell ?_ (by exact Nat.le_refl _) _))
      rw [if_pos uo] at hfun
      have uob : (uq != (lb.length : Int)) = false := bne_eq_false_iff_eq.mpr uo
      clear uo
      obtain ⟨⟨ca, cc⟩, hcnt, hfun⟩ := Option.bind_eq_some_iff.mp hfun
      simp only at hfun
      have HCN := Aside0.mk hcnt
      clear hcnt
      by_cases n1 : ca > 4096
      · rw [if_pos n1] at hfun
        obtain ⟨rfl, rfl⟩ : z29 = r1 ∧ (7 : Int) = r2 := by simpa using hfun
        have n1b : decide (4096 < ca) = true := decide_eq_true n1
        clear hfun n1
        go_wp2_with (first | (go_at_call 43; refine (reader_token.calls k (some ab) cb lb (.slice At lt.length ct) 0 wb.heap.size wb _ _ _ _ HCb.out HCB.out HS0.out HTK.out).mono ?_; rintro e w3 ⟨rfl, hm⟩; have HS := Aside0.mk hm.st; have hg3 : wb.heap.size < w3.heap.size := blk_lt HS.out.blk; clear hm; have HK := Aside0.mk (blk_below HKb.out HS.out.bel); have HB := Aside0.mk (below_step HBb.out HS.out.bel); have HH := Aside0.mk (blk_below HHb.out HS.out.bel); have z0 : w3.cell? ⟨w.heap.size, 0, none⟩ = some (.int .u32 0) := (blk_cell HK.out 0).trans rfl; have f0 : w3.frozen? ⟨w.heap.size, 0, none⟩ = false := blk_frozen HK.out 0; have z1 : w3.cell? ⟨w.heap.size, 1, none⟩ = some (.slice none 0 0) := (blk_cell HK.out 1).trans rfl; have f1 : w3.frozen? ⟨w.heap.size, 1, none⟩ = false := blk_frozen HK.out 1; have z2 : w3.cell? ⟨w.heap.size, 2, none⟩ = some (.string ⟨#[]⟩) := (blk_cell HK.out 2).trans rfl; have f2 : w3.frozen? ⟨w.heap.size, 2, none⟩ = false := blk_frozen HK.out 2; have z3 : w3.cell? ⟨w.heap.size, 3, none⟩ = some (.slice none 0 0) := (blk_cell HK.out 3).trans rfl; have f3 : w3.frozen? ⟨w.heap.size, 3, none⟩ = false := blk_frozen HK.out 3; have z4 : w3.cell? ⟨w.heap.size, 4, none⟩ = some (.slice none 0 0) := (blk_cell HK.out 4).trans rfl; have f4 : w3.frozen? ⟨w.heap.size, 4, none⟩ = false := blk_frozen HK.out 4; have hlt : w.heap.size < w3.heap.size := blk_lt HK.out; have hh2 : w3.cell? ⟨gh, 2, none⟩ = some (.int .u32 h.c2) := (blk_cell HH.out 2).trans rfl; have hh3 : w3.cell? ⟨gh, 3, none⟩ = some (.int .u32 h.c3) := (blk_cell HH.out 3).trans rfl; have hh4 : w3.cell? ⟨gh, 4, none⟩ = some (.int .u32 h.c4) := (blk_cell HH.out 4).trans rfl; have hh7 : w3.cell? ⟨gh, 7, none⟩ = some (.int .u32 h.c7) := (blk_cell HH.out 7).trans rfl; have hh8 : w3.cell? ⟨gh, 8, none⟩ = some (.int .u32 h.c8) := (blk_cell HH.out 8).trans rfl; have hh9 : w3.cell? ⟨gh, 9, none⟩ = some (.int .u32 h.c9) := (blk_cell HH.out 9).trans rfl; have kr0 : w3.cell? ⟨wb.heap.size, 0, none⟩ = some (.slice (some ab) lb.length cb) := (blk_cell HS.out.blk 0).trans rfl) | (go_at_call 44; refine (reader_node.calls ab cb lb At ct lt wb.heap.size wb ⟨HCb.out⟩ ⟨HCB.out⟩ ⟨HTb.out⟩ ⟨HCT.out⟩ k tq [] 1 _ _ _ _ _ (HS.out.below (below_alloc (Below.refl _ _) _)) (MapS.made _) HS.out.bel.size (Nat.ne_of_lt (blk_lt HS.out.blk)) HND.out).mono ?_; rintro e w4 ⟨v1, v2, rfl, hop, hr1, hr2⟩; obtain ⟨A1, c1, rfl⟩ := Kd.R_slice hr1; obtain ⟨A2, c2, rfl⟩ := Kd.R_slice hr2; have HR1 := Aside0.mk hr1; have HR2 := Aside0.mk hr2; have HS := Aside0.mk hop.st; clear hop hr1 hr2; have HK := Aside0.mk (blk_below HKb.out HS.out.bel); have HB := Aside0.mk (below_step HBb.out HS.out.bel); have HH := Aside0.mk (blk_below HHb.out HS.out.bel); have z0 : w4.cell? ⟨w.heap.size, 0, none⟩ = some (.int .u32 0) := (blk_cell HK.out 0).trans rfl; have f0 : w4.frozen? ⟨w.heap.size, 0, none⟩ = false := blk_frozen HK.out 0; have z1 : w4.cell? ⟨w.heap.size, 1, none⟩ = some (.slice none 0 0) := (blk_cell HK.out 1).trans rfl; have f1 : w4.frozen? ⟨w.heap.size, 1, none⟩ = false := blk_frozen HK.out 1; have z2 : w4.cell? ⟨w.heap.size, 2, none⟩ = some (.string ⟨#[]⟩) := (blk_cell HK.out 2).trans rfl; have f2 : w4.frozen? ⟨w.heap.size, 2, none⟩ = false := blk_frozen HK.out 2; have z3 : w4.cell? ⟨w.heap.size, 3, none⟩ = some (.slice none 0 0) := (blk_cell HK.out 3).trans rfl; have f3 : w4.frozen? ⟨w.heap.size, 3, none⟩ = false := blk_frozen HK.out 3; have z4 : w4.cell? ⟨w.heap.size, 4, none⟩ = some (.slice none 0 0) := (blk_cell HK.out 4).trans rfl; have f4 : w4.frozen? ⟨w.heap.size, 4, none⟩ = false := blk_frozen HK.out 4; have hlt : w.heap.size < w4.heap.size := blk_lt HK.out; have hh2 : w4.cell? ⟨gh, 2, none⟩ = some (.int .u32 h.c2) := (blk_cell HH.out 2).trans rfl; have hh3 : w4.cell? ⟨gh, 3, none⟩ = some (.int .u32 h.c3) := (blk_cell HH.out 3).trans rfl; have hh4 : w4.cell? ⟨gh, 4, none⟩ = some (.int .u32 h.c4) := (blk_cell HH.out 4).trans rfl; have hh7 : w4.cell? ⟨gh, 7, none⟩ = some (.int .u32 h.c7) := (blk_cell HH.out 7).trans rfl; have hh8 : w4.cell? ⟨gh, 8, none⟩ = some (.int .u32 h.c8) := (blk_cell HH.out 8).trans rfl; have hh9 : w4.cell? ⟨gh, 9, none⟩ = some (.int .u32 h.c9) := (blk_cell HH.out 9).trans rfl; have kr0 : w4.cell? ⟨wb.heap.size, 0, none⟩ = some (.slice (some ab) lb.length cb) := (blk_cell HS.out.blk 0).trans rfl) | (go_at_call 43; refine (reader_token.calls k (some ab) cb lb (.slice At lt.length ct) _ wb.heap.size wb _ _ _ _ HCb.out HCB.out (HS.out.below (below_alloc (Below.refl _ _) _)) HTK2.out).mono ?_; rintro e w5 ⟨rfl, hm⟩; have HN5 := Aside0.mk (blk_kept (blk_new w4 (.cells #[.string x.f0, .slice A1 x.f1.length c1, .slice A2 x.f2.length c2] 27 (0, 0))) hm.kept (fun e => Nat.ne_of_gt (blk_lt HS.out.blk) e)); have HR1 := Aside0.mk (R_keptg (Kd.R_below HR1.out (below_alloc (Below.refl _ _) _)) hm.kept (by simp; omega)); have HR2 := Aside0.mk (R_keptg (Kd.R_below HR2.out (below_alloc (Below.refl _ _) _)) hm.kept (by simp; omega)); have HS := Aside0.mk hm.st; clear hm; have HK := Aside0.mk (blk_below HKb.out HS.out.bel); have HB := Aside0.mk (below_step HBb.out HS.out.bel); have HH := Aside0.mk (blk_below HHb.out HS.out.bel); have z0 : w5.cell? ⟨w.heap.size, 0, none⟩ = some (.int .u32 0) := (blk_cell HK.out 0).trans rfl; have f0 : w5.frozen? ⟨w.heap.size, 0, none⟩ = false := blk_frozen HK.out 0; have z1 : w5.cell? ⟨w.heap.size, 1, none⟩ = some (.slice none 0 0) := (blk_cell HK.out 1).trans rfl; have f1 : w5.frozen? ⟨w.heap.size, 1, none⟩ = false := blk_frozen HK.out 1; have z2 : w5.cell? ⟨w.heap.size, 2, none⟩ = some (.string ⟨#[]⟩) := (blk_cell HK.out 2).trans rfl; have f2 : w5.frozen? ⟨w.heap.size, 2, none⟩ = false := blk_frozen HK.out 2; have z3 : w5.cell? ⟨w.heap.size, 3, none⟩ = some (.slice none 0 0) := (blk_cell HK.out 3).trans rfl; have f3 : w5.frozen? ⟨w.heap.size, 3, none⟩ = false := blk_frozen HK.out 3; have z4 : w5.cell? ⟨w.heap.size, 4, none⟩ = some (.slice none 0 0) := (blk_cell HK.out 4).trans rfl; have f4 : w5.frozen? ⟨w.heap.size, 4, none⟩ = false := blk_frozen HK.out 4; have hlt : w.heap.size < w5.heap.size := blk_lt HK.out; have hh2 : w5.cell? ⟨gh, 2, none⟩ = some (.int .u32 h.c2) := (blk_cell HH.out 2).trans rfl; have hh3 : w5.cell? ⟨gh, 3, none⟩ = some (.int .u32 h.c3) := (blk_cell HH.out 3).trans rfl; have hh4 : w5.cell? ⟨gh, 4, none⟩ = some (.int .u32 h.c4) := (blk_cell HH.out 4).trans rfl; have hh7 : w5.cell? ⟨gh, 7, none⟩ = some (.int .u32 h.c7) := (blk_cell HH.out 7).trans rfl; have hh8 : w5.cell? ⟨gh, 8, none⟩ = some (.int .u32 h.c8) := (blk_cell HH.out 8).trans rfl; have hh9 : w5.cell? ⟨gh, 9, none⟩ = some (.int .u32 h.c9) := (blk_cell HH.out 9).trans rfl; have kr0 : w5.cell? ⟨wb.heap.size, 0, none⟩ = some (.slice (some ab) lb.length cb) := (blk_cell HS.out.blk 0).trans rfl; have kr2 : w5.cell? ⟨wb.heap.size, 2, none⟩ = some (.int .i64 uq) := (blk_cell HS.out.blk 2).trans rfl; have kn0 : w5.cell? ⟨w4.heap.size, 0, none⟩ = some (.string x.f0) := (blk_cell HN5.out 0).trans rfl; have kn1 : w5.cell? ⟨w4.heap.size, 1, none⟩ = some (.slice A1 x.f1.length c1) := (blk_cell HN5.out 1).trans rfl; have kn2 : w5.cell? ⟨w4.heap.size, 2, none⟩ = some (.slice A2 x.f2.length c2) := (blk_cell HN5.out 2).trans rfl))
        go_quiet (fail)
        go_wp2_with (go_at_call 45; refine (tree_Count.calls k x.f0 A1 c1 x.f1 A2 c2 x.f2 ca cc _ (Kd.C_below (Kd.R_reads' HR1.out).2.2 (by repeat (first | exact Below.refl _ _ | refine pw_below_drewN ?_ _))) (Kd.R_reads' HR1.out).2.1 (Kd.C_below (Kd.R_reads' HR2.out).2.2 (by repeat (first | exact Below.refl _ _ | refine pw_below_drewN ?_ _))) (Kd.R_reads' HR2.out).2.1 HCN.out).mono ?_; rintro e w6 ⟨rfl, hb6⟩; have HB6 := Aside0.mk hb6; have HN6 := Aside0.mk (blk_below (blk_drewN HN5.out _) hb6); have HK := Aside0.mk (blk_below (blk_drewN HK.out _) hb6); have HH := Aside0.mk (blk_below (blk_drewN HH.out _) hb6); have HR1 := Aside0.mk (Kd.R_below (Kd.R_drewN HR1.out _) hb6); have HR2 := Aside0.mk (Kd.R_below (Kd.R_drewN HR2.out _) hb6); have HB := Aside0.mk (below_step (pw_below_drewN HB.out _) hb6); have HBB := Aside0.mk (below_step (pw_below_drewN HS.out.bel _) hb6); clear hb6; have z0 : w6.cell? ⟨w.heap.size, 0, none⟩ = some (.int .u32 0) := (blk_cell HK.out 0).trans rfl; have f0 : w6.frozen? ⟨w.heap.size, 0, none⟩ = false := blk_frozen HK.out 0; have z1 : w6.cell? ⟨w.heap.size, 1, none⟩ = some (.slice none 0 0) := (blk_cell HK.out 1).trans rfl; have f1 : w6.frozen? ⟨w.heap.size, 1, none⟩ = false := blk_frozen HK.out 1; have z2 : w6.cell? ⟨w.heap.size, 2, none⟩ = some (.string ⟨#[]⟩) := (blk_cell HK.out 2).trans rfl; have f2 : w6.frozen? ⟨w.heap.size, 2, none⟩ = false := blk_frozen HK.out 2; have z3 : w6.cell? ⟨w.heap.size, 3, none⟩ = some (.slice none 0 0) := (blk_cell HK.out 3).trans rfl; have f3 : w6.frozen? ⟨w.heap.size, 3, none⟩ = false := blk_frozen HK.out 3; have z4 : w6.cell? ⟨w.heap.size, 4, none⟩ = some (.slice none 0 0) := (blk_cell HK.out 4).trans rfl; have f4 : w6.frozen? ⟨w.heap.size, 4, none⟩ = false := blk_frozen HK.out 4; have hlt : w.heap.size < w6.heap.size := blk_lt HK.out; have hh2 : w6.cell? ⟨gh, 2, none⟩ = some (.int .u32 h.c2) := (blk_cell HH.out 2).trans rfl; have hh3 : w6.cell? ⟨gh, 3, none⟩ = some (.int .u32 h.c3) := (blk_cell HH.out 3).trans rfl; have hh4 : w6.cell? ⟨gh, 4, none⟩ = some (.int .u32 h.c4) := (blk_cell HH.out 4).trans rfl; have hh7 : w6.cell? ⟨gh, 7, none⟩ = some (.int .u32 h.c7) := (blk_cell HH.out 7).trans rfl; have hh8 : w6.cell? ⟨gh, 8, none⟩ = some (.int .u32 h.c8) := (blk_cell HH.out 8).trans rfl; have hh9 : w6.cell? ⟨gh, 9, none⟩ = some (.int .u32 h.c9) := (blk_cell HH.out 9).trans rfl; have kn0 : w6.cell? ⟨w4.heap.size, 0, none⟩ = some (.string x.f0) := (blk_cell HN6.out 0).trans rfl; have kn1 : w6.cell? ⟨w4.heap.size, 1, none⟩ = some (.slice A1 x.f1.length c1) := (blk_cell HN6.out 1).trans rfl; have kn2 : w6.cell? ⟨w4.heap.size, 2, none⟩ = some (.slice A2 x.f2.length c2) := (blk_cell HN6.out 2).trans rfl)
        refine bodyPost_ret (results_ct rfl _ _ w.heap.size 29 #[.int .u32 0, .slice none 0 0, .string ⟨#[]⟩, .slice none 0 0, .slice none 0 0] (0, 0) _ rfl (by (with_reducible repeat (first | refine blk_alloc ?_ _ | refine blk_drewN ?_ _)); refine blk_put (cs := #[.int .u32 0, .slice none 0 0, .string ⟨#[]⟩, .slice none 0 0, .slice none 0 0]) ?_ 4 _ rfl; (with_reducible repeat (first | refine blk_alloc ?_ _ | refine blk_drewN ?_ _)); refine blk_put (cs := #[.int .u32 0, .slice none 0 0, .string ⟨#[]⟩, .slice none 0 0, .slice none 0 0]) ?_ 3 _ rfl; (with_reducible repeat (first | refine blk_alloc ?_ _ | refine blk_drewN ?_ _)); refine blk_put (cs := #[.int .u32 0, .slice none 0 0, .string ⟨#[]⟩, .slice none 0 0, .slice none 0 0]) ?_ 2 _ rfl; (with_reducible repeat (first | refine blk_alloc ?_ _ | refine blk_drewN ?_ _)); refine blk_put (cs := #[.int .u32 0, .slice none 0 0, .string ⟨#[]⟩, .slice none 0 0, .slice none 0 0]) ?_ 1 _ rfl; (with_reducible repeat (first | refine blk_alloc ?_ _ | refine blk_drewN ?_ _)); refine blk_put (cs := #[.int .u32 0, .slice none 0 0, .string ⟨#[]⟩, .slice none 0 0, .slice none 0 0]) ?_ 0 _ rfl; (with_reducible repeat (first | refine blk_alloc ?_ _ | refine blk_drewN ?_ _)); exact HK.out) Try.underlying29 rfl (by kernel_rfl)) rfl ⟨_, _, _, rfl, Kd.R_nil _ _ _ _ _, Kd.R_nil _ _ _ _ _, Kd.R_nil _ _ _ _ _, ?_⟩
        repeat (first | (with_reducible exact HB.out) | (with_reducible refine below_alloc ?_ _) | (with_reducible refine pw_below_drewN ?_ _) | (refine Below.setCell ?_ (by exact Nat.le_refl _) _))
      · rw [if_neg n1] at hfun
        have n1b : decide (4096 < ca) = false := decide_eq_false n1
        clear n1
        by_cases n2 : cc > 8192
        · rw [if_pos n2] at hfun
          obtain ⟨rfl, rfl⟩ : z29 = r1 ∧ (7 : Int) = r2 := by simpa using hfun
          have n2b : decide (8192 < cc) = true := decide_eq_true n2
          clear hfun n2
          go_wp2_with (first | (go_at_call 43; refine (reader_token.calls k (some ab) cb lb (.slice At lt.length ct) 0 wb.heap.size wb _ _ _ _ HCb.out HCB.out HS0.out HTK.out).mono ?_; rintro e w3 ⟨rfl, hm⟩; have HS := Aside0.mk hm.st; have hg3 : wb.heap.size < w3.heap.size := blk_lt HS.out.blk; clear hm; have HK := Aside0.mk (blk_below HKb.out HS.out.bel); have HB := Aside0.mk (below_step HBb.out HS.out.bel); have HH := Aside0.mk (blk_below HHb.out HS.out.bel); have z0 : w3.cell? ⟨w.heap.size, 0, none⟩ = some (.int .u32 0) := (blk_cell HK.out 0).trans rfl; have f0 : w3.frozen? ⟨w.heap.size, 0, none⟩ = false := blk_frozen HK.out 0; have z1 : w3.cell? ⟨w.heap.size, 1, none⟩ = some (.slice none 0 0) := (blk_cell HK.out 1).trans rfl; have f1 : w3.frozen? ⟨w.heap.size, 1, none⟩ = false := blk_frozen HK.out 1; have z2 : w3.cell? ⟨w.heap.size, 2, none⟩ = some (.string ⟨#[]⟩) := (blk_cell HK.out 2).trans rfl; have f2 : w3.frozen? ⟨w.heap.size, 2, none⟩ = false := blk_frozen HK.out 2; have z3 : w3.cell? ⟨w.heap.size, 3, none⟩ = some (.slice none 0 0) := (blk_cell HK.out 3).trans rfl; have f3 : w3.frozen? ⟨w.heap.size, 3, none⟩ = false := blk_frozen HK.out 3; have z4 : w3.cell? ⟨w.heap.size, 4, none⟩ = some (.slice none 0 0) := (blk_cell HK.out 4).trans rfl; have f4 : w3.frozen? ⟨w.heap.size, 4, none⟩ = false := blk_frozen HK.out 4; have hlt : w.heap.size < w3.heap.size := blk_lt HK.out; have hh2 : w3.cell? ⟨gh, 2, none⟩ = some (.int .u32 h.c2) := (blk_cell HH.out 2).trans rfl; have hh3 : w3.cell? ⟨gh, 3, none⟩ = some (.int .u32 h.c3) := (blk_cell HH.out 3).trans rfl; have hh4 : w3.cell? ⟨gh, 4, none⟩ = some (.int .u32 h.c4) := (blk_cell HH.out 4).trans rfl; have hh7 : w3.cell? ⟨gh, 7, none⟩ = some (.int .u32 h.c7) := (blk_cell HH.out 7).trans rfl; have hh8 : w3.cell? ⟨gh, 8, none⟩ = some (.int .u32 h.c8) := (blk_cell HH.out 8).trans rfl; have hh9 : w3.cell? ⟨gh, 9, none⟩ = some (.int .u32 h.c9) := (blk_cell HH.out 9).trans rfl; have kr0 : w3.cell? ⟨wb.heap.size, 0, none⟩ = some (.slice (some ab) lb.length cb) := (blk_cell HS.out.blk 0).trans rfl) | (go_at_call 44; refine (reader_node.calls ab cb lb At ct lt wb.heap.size wb ⟨HCb.out⟩ ⟨HCB.out⟩ ⟨HTb.out⟩ ⟨HCT.out⟩ k tq [] 1 _ _ _ _ _ (HS.out.below (below_alloc (Below.refl _ _) _)) (MapS.made _) HS.out.bel.size (Nat.ne_of_lt (blk_lt HS.out.blk)) HND.out).mono ?_; rintro e w4 ⟨v1, v2, rfl, hop, hr1, hr2⟩; obtain ⟨A1, c1, rfl⟩ := Kd.R_slice hr1; obtain ⟨A2, c2, rfl⟩ := Kd.R_slice hr2; have HR1 := Aside0.mk hr1; have HR2 := Aside0.mk hr2; have HS := Aside0.mk hop.st; clear hop hr1 hr2; have HK := Aside0.mk (blk_below HKb.out HS.out.bel); have HB := Aside0.mk (below_step HBb.out HS.out.bel); have HH := Aside0.mk (blk_below HHb.out HS.out.bel); have z0 : w4.cell? ⟨w.heap.size, 0, none⟩ = some (.int .u32 0) := (blk_cell HK.out 0).trans rfl; have f0 : w4.frozen? ⟨w.heap.size, 0, none⟩ = false := blk_frozen HK.out 0; have z1 : w4.cell? ⟨w.heap.size, 1, none⟩ = some (.slice none 0 0) := (blk_cell HK.out 1).trans rfl; have f1 : w4.frozen? ⟨w.heap.size, 1, none⟩ = false := blk_frozen HK.out 1; have z2 : w4.cell? ⟨w.heap.size, 2, none⟩ = some (.string ⟨#[]⟩) := (blk_cell HK.out 2).trans rfl; have f2 : w4.frozen? ⟨w.heap.size, 2, none⟩ = false := blk_frozen HK.out 2; have z3 : w4.cell? ⟨w.heap.size, 3, none⟩ = some (.slice none 0 0) := (blk_cell HK.out 3).trans rfl; have f3 : w4.frozen? ⟨w.heap.size, 3, none⟩ = false := blk_frozen HK.out 3; have z4 : w4.cell? ⟨w.heap.size, 4, none⟩ = some (.slice none 0 0) := (blk_cell HK.out 4).trans rfl; have f4 : w4.frozen? ⟨w.heap.size, 4, none⟩ = false := blk_frozen HK.out 4; have hlt : w.heap.size < w4.heap.size := blk_lt HK.out; have hh2 : w4.cell? ⟨gh, 2, none⟩ = some (.int .u32 h.c2) := (blk_cell HH.out 2).trans rfl; have hh3 : w4.cell? ⟨gh, 3, none⟩ = some (.int .u32 h.c3) := (blk_cell HH.out 3).trans rfl; have hh4 : w4.cell? ⟨gh, 4, none⟩ = some (.int .u32 h.c4) := (blk_cell HH.out 4).trans rfl; have hh7 : w4.cell? ⟨gh, 7, none⟩ = some (.int .u32 h.c7) := (blk_cell HH.out 7).trans rfl; have hh8 : w4.cell? ⟨gh, 8, none⟩ = some (.int .u32 h.c8) := (blk_cell HH.out 8).trans rfl; have hh9 : w4.cell? ⟨gh, 9, none⟩ = some (.int .u32 h.c9) := (blk_cell HH.out 9).trans rfl; have kr0 : w4.cell? ⟨wb.heap.size, 0, none⟩ = some (.slice (some ab) lb.length cb) := (blk_cell HS.out.blk 0).trans rfl) | (go_at_call 43; refine (reader_token.calls k (some ab) cb lb (.slice At lt.length ct) _ wb.heap.size wb _ _ _ _ HCb.out HCB.out (HS.out.below (below_alloc (Below.refl _ _) _)) HTK2.out).mono ?_; rintro e w5 ⟨rfl, hm⟩; have HN5 := Aside0.mk (blk_kept (blk_new w4 (.cells #[.string x.f0, .slice A1 x.f1.length c1, .slice A2 x.f2.length c2] 27 (0, 0))) hm.kept (fun e => Nat.ne_of_gt (blk_lt HS.out.blk) e)); have HR1 := Aside0.mk (R_keptg (Kd.R_below HR1.out (below_alloc (Below.refl _ _) _)) hm.kept (by simp; omega)); have HR2 := Aside0.mk (R_keptg (Kd.R_below HR2.out (below_alloc (Below.refl _ _) _)) hm.kept (by simp; omega)); have HS := Aside0.mk hm.st; clear hm; have HK := Aside0.mk (blk_below HKb.out HS.out.bel); have HB := Aside0.mk (below_step HBb.out HS.out.bel); have HH := Aside0.mk (blk_below HHb.out HS.out.bel); have z0 : w5.cell? ⟨w.heap.size, 0, none⟩ = some (.int .u32 0) := (blk_cell HK.out 0).trans rfl; have f0 : w5.frozen? ⟨w.heap.size, 0, none⟩ = false := blk_frozen HK.out 0; have z1 : w5.cell? ⟨w.heap.size, 1, none⟩ = some (.slice none 0 0) := (blk_cell HK.out 1).trans rfl; have f1 : w5.frozen? ⟨w.heap.size, 1, none⟩ = false := blk_frozen HK.out 1; have z2 : w5.cell? ⟨w.heap.size, 2, none⟩ = some (.string ⟨#[]⟩) := (blk_cell HK.out 2).trans rfl; have f2 : w5.frozen? ⟨w.heap.size, 2, none⟩ = false := blk_frozen HK.out 2; have z3 : w5.cell? ⟨w.heap.size, 3, none⟩ = some (.slice none 0 0) := (blk_cell HK.out 3).trans rfl; have f3 : w5.frozen? ⟨w.heap.size, 3, none⟩ = false := blk_frozen HK.out 3; have z4 : w5.cell? ⟨w.heap.size, 4, none⟩ = some (.slice none 0 0) := (blk_cell HK.out 4).trans rfl; have f4 : w5.frozen? ⟨w.heap.size, 4, none⟩ = false := blk_frozen HK.out 4; have hlt : w.heap.size < w5.heap.size := blk_lt HK.out; have hh2 : w5.cell? ⟨gh, 2, none⟩ = some (.int .u32 h.c2) := (blk_cell HH.out 2).trans rfl; have hh3 : w5.cell? ⟨gh, 3, none⟩ = some (.int .u32 h.c3) := (blk_cell HH.out 3).trans rfl; have hh4 : w5.cell? ⟨gh, 4, none⟩ = some (.int .u32 h.c4) := (blk_cell HH.out 4).trans rfl; have hh7 : w5.cell? ⟨gh, 7, none⟩ = some (.int .u32 h.c7) := (blk_cell HH.out 7).trans rfl; have hh8 : w5.cell? ⟨gh, 8, none⟩ = some (.int .u32 h.c8) := (blk_cell HH.out 8).trans rfl; have hh9 : w5.cell? ⟨gh, 9, none⟩ = some (.int .u32 h.c9) := (blk_cell HH.out 9).trans rfl; have kr0 : w5.cell? ⟨wb.heap.size, 0, none⟩ = some (.slice (some ab) lb.length cb) := (blk_cell HS.out.blk 0).trans rfl; have kr2 : w5.cell? ⟨wb.heap.size, 2, none⟩ = some (.int .i64 uq) := (blk_cell HS.out.blk 2).trans rfl; have kn0 : w5.cell? ⟨w4.heap.size, 0, none⟩ = some (.string x.f0) := (blk_cell HN5.out 0).trans rfl; have kn1 : w5.cell? ⟨w4.heap.size, 1, none⟩ = some (.slice A1 x.f1.length c1) := (blk_cell HN5.out 1).trans rfl; have kn2 : w5.cell? ⟨w4.heap.size, 2, none⟩ = some (.slice A2 x.f2.length c2) := (blk_cell HN5.out 2).trans rfl))
          go_quiet (fail)
          go_wp2_with (go_at_call 45; refine (tree_Count.calls k x.f0 A1 c1 x.f1 A2 c2 x.f2 ca cc _ (Kd.C_below (Kd.R_reads' HR1.out).2.2 (by repeat (first | exact Below.refl _ _ | refine pw_below_drewN ?_ _))) (Kd.R_reads' HR1.out).2.1 (Kd.C_below (Kd.R_reads' HR2.out).2.2 (by repeat (first | exact Below.refl _ _ | refine pw_below_drewN ?_ _))) (Kd.R_reads' HR2.out).2.1 HCN.out).mono ?_; rintro e w6 ⟨rfl, hb6⟩; have HB6 := Aside0.mk hb6; have HN6 := Aside0.mk (blk_below (blk_drewN HN5.out _) hb6); have HK := Aside0.mk (blk_below (blk_drewN HK.out _) hb6); have HH := Aside0.mk (blk_below (blk_drewN HH.out _) hb6); have HR1 := Aside0.mk (Kd.R_below (Kd.R_drewN HR1.out _) hb6); have HR2 := Aside0.mk (Kd.R_below (Kd.R_drewN HR2.out _) hb6); have HB := Aside0.mk (below_step (pw_below_drewN HB.out _) hb6); have HBB := Aside0.mk (below_step (pw_below_drewN HS.out.bel _) hb6); clear hb6; have z0 : w6.cell? ⟨w.heap.size, 0, none⟩ = some (.int .u32 0) := (blk_cell HK.out 0).trans rfl; have f0 : w6.frozen? ⟨w.heap.size, 0, none⟩ = false := blk_frozen HK.out 0; have z1 : w6.cell? ⟨w.heap.size, 1, none⟩ = some (.slice none 0 0) := (blk_cell HK.out 1).trans rfl; have f1 : w6.frozen? ⟨w.heap.size, 1, none⟩ = false := blk_frozen HK.out 1; have z2 : w6.cell? ⟨w.heap.size, 2, none⟩ = some (.string ⟨#[]⟩) := (blk_cell HK.out 2).trans rfl; have f2 : w6.frozen? ⟨w.heap.size, 2, none⟩ = false := blk_frozen HK.out 2; have z3 : w6.cell? ⟨w.heap.size, 3, none⟩ = some (.slice none 0 0) := (blk_cell HK.out 3).trans rfl; have f3 : w6.frozen? ⟨w.heap.size, 3, none⟩ = false := blk_frozen HK.out 3; have z4 : w6.cell? ⟨w.heap.size, 4, none⟩ = some (.slice none 0 0) := (blk_cell HK.out 4).trans rfl; have f4 : w6.frozen? ⟨w.heap.size, 4, none⟩ = false := blk_frozen HK.out 4; have hlt : w.heap.size < w6.heap.size := blk_lt HK.out; have hh2 : w6.cell? ⟨gh, 2, none⟩ = some (.int .u32 h.c2) := (blk_cell HH.out 2).trans rfl; have hh3 : w6.cell? ⟨gh, 3, none⟩ = some (.int .u32 h.c3) := (blk_cell HH.out 3).trans rfl; have hh4 : w6.cell? ⟨gh, 4, none⟩ = some (.int .u32 h.c4) := (blk_cell HH.out 4).trans rfl; have hh7 : w6.cell? ⟨gh, 7, none⟩ = some (.int .u32 h.c7) := (blk_cell HH.out 7).trans rfl; have hh8 : w6.cell? ⟨gh, 8, none⟩ = some (.int .u32 h.c8) := (blk_cell HH.out 8).trans rfl; have hh9 : w6.cell? ⟨gh, 9, none⟩ = some (.int .u32 h.c9) := (blk_cell HH.out 9).trans rfl; have kn0 : w6.cell? ⟨w4.heap.size, 0, none⟩ = some (.string x.f0) := (blk_cell HN6.out 0).trans rfl; have kn1 : w6.cell? ⟨w4.heap.size, 1, none⟩ = some (.slice A1 x.f1.length c1) := (blk_cell HN6.out 1).trans rfl; have kn2 : w6.cell? ⟨w4.heap.size, 2, none⟩ = some (.slice A2 x.f2.length c2) := (blk_cell HN6.out 2).trans rfl)
          refine bodyPost_ret (results_ct rfl _ _ w.heap.size 29 #[.int .u32 0, .slice none 0 0, .string ⟨#[]⟩, .slice none 0 0, .slice none 0 0] (0, 0) _ rfl (by (with_reducible repeat (first | refine blk_alloc ?_ _ | refine blk_drewN ?_ _)); refine blk_put (cs := #[.int .u32 0, .slice none 0 0, .string ⟨#[]⟩, .slice none 0 0, .slice none 0 0]) ?_ 4 _ rfl; (with_reducible repeat (first | refine blk_alloc ?_ _ | refine blk_drewN ?_ _)); refine blk_put (cs := #[.int .u32 0, .slice none 0 0, .string ⟨#[]⟩, .slice none 0 0, .slice none 0 0]) ?_ 3 _ rfl; (with_reducible repeat (first | refine blk_alloc ?_ _ | refine blk_drewN ?_ _)); refine blk_put (cs := #[.int .u32 0, .slice none 0 0, .string ⟨#[]⟩, .slice none 0 0, .slice none 0 0]) ?_ 2 _ rfl; (with_reducible repeat (first | refine blk_alloc ?_ _ | refine blk_drewN ?_ _)); refine blk_put (cs := #[.int .u32 0, .slice none 0 0, .string ⟨#[]⟩, .slice none 0 0, .slice none 0 0]) ?_ 1 _ rfl; (with_reducible repeat (first | refine blk_alloc ?_ _ | refine blk_drewN ?_ _)); refine blk_put (cs := #[.int .u32 0, .slice none 0 0, .string ⟨#[]⟩, .slice none 0 0, .slice none 0 0]) ?_ 0 _ rfl; (with_reducible repeat (first | refine blk_alloc ?_ _ | refine blk_drewN ?_ _)); exact HK.out) Try.underlying29 rfl (by kernel_rfl)) rfl ⟨_, _, _, rfl, Kd.R_nil _ _ _ _ _, Kd.R_nil _ _ _ _ _, Kd.R_nil _ _ _ _ _, ?_⟩
          repeat (first | (with_reducible exact HB.out) | (with_reducible refine below_alloc ?_ _) | (with_reducible refine pw_below_drewN ?_ _) | (refine Below.setCell ?_ (by exact Nat.le_refl _) _))
        · rw [if_neg n2] at hfun
          have n2b : decide (8192 < cc) = false := decide_eq_false n2
          obtain ⟨rfl, rfl⟩ : (⟨h.c7, rs, x⟩ : S29) = r1 ∧ (0 : Int) = r2 := by simpa using hfun
          clear hfun n2
          go_wp2_with (first | (go_at_call 43; refine (reader_token.calls k (some ab) cb lb (.slice At lt.length ct) 0 wb.heap.size wb _ _ _ _ HCb.out HCB.out HS0.out HTK.out).mono ?_; rintro e w3 ⟨rfl, hm⟩; have HS := Aside0.mk hm.st; have hg3 : wb.heap.size < w3.heap.size := blk_lt HS.out.blk; clear hm; have HK := Aside0.mk (blk_below HKb.out HS.out.bel); have HB := Aside0.mk (below_step HBb.out HS.out.bel); have HH := Aside0.mk (blk_below HHb.out HS.out.bel); have z0 : w3.cell? ⟨w.heap.size, 0, none⟩ = some (.int .u32 0) := (blk_cell HK.out 0).trans rfl; have f0 : w3.frozen? ⟨w.heap.size, 0, none⟩ = false := blk_frozen HK.out 0; have z1 : w3.cell? ⟨w.heap.size, 1, none⟩ = some (.slice none 0 0) := (blk_cell HK.out 1).trans rfl; have f1 : w3.frozen? ⟨w.heap.size, 1, none⟩ = false := blk_frozen HK.out 1; have z2 : w3.cell? ⟨w.heap.size, 2, none⟩ = some (.string ⟨#[]⟩) := (blk_cell HK.out 2).trans rfl; have f2 : w3.frozen? ⟨w.heap.size, 2, none⟩ = false := blk_frozen HK.out 2; have z3 : w3.cell? ⟨w.heap.size, 3, none⟩ = some (.slice none 0 0) := (blk_cell HK.out 3).trans rfl; have f3 : w3.frozen? ⟨w.heap.size, 3, none⟩ = false := blk_frozen HK.out 3; have z4 : w3.cell? ⟨w.heap.size, 4, none⟩ = some (.slice none 0 0) := (blk_cell HK.out 4).trans rfl; have f4 : w3.frozen? ⟨w.heap.size, 4, none⟩ = false := blk_frozen HK.out 4; have hlt : w.heap.size < w3.heap.size := blk_lt HK.out; have hh2 : w3.cell? ⟨gh, 2, none⟩ = some (.int .u32 h.c2) := (blk_cell HH.out 2).trans rfl; have hh3 : w3.cell? ⟨gh, 3, none⟩ = some (.int .u32 h.c3) := (blk_cell HH.out 3).trans rfl; have hh4 : w3.cell? ⟨gh, 4, none⟩ = some (.int .u32 h.c4) := (blk_cell HH.out 4).trans rfl; have hh7 : w3.cell? ⟨gh, 7, none⟩ = some (.int .u32 h.c7) := (blk_cell HH.out 7).trans rfl; have hh8 : w3.cell? ⟨gh, 8, none⟩ = some (.int .u32 h.c8) := (blk_cell HH.out 8).trans rfl; have hh9 : w3.cell? ⟨gh, 9, none⟩ = some (.int .u32 h.c9) := (blk_cell HH.out 9).trans rfl; have kr0 : w3.cell? ⟨wb.heap.size, 0, none⟩ = some (.slice (some ab) lb.length cb) := (blk_cell HS.out.blk 0).trans rfl) | (go_at_call 44; refine (reader_node.calls ab cb lb At ct lt wb.heap.size wb ⟨HCb.out⟩ ⟨HCB.out⟩ ⟨HTb.out⟩ ⟨HCT.out⟩ k tq [] 1 _ _ _ _ _ (HS.out.below (below_alloc (Below.refl _ _) _)) (MapS.made _) HS.out.bel.size (Nat.ne_of_lt (blk_lt HS.out.blk)) HND.out).mono ?_; rintro e w4 ⟨v1, v2, rfl, hop, hr1, hr2⟩; obtain ⟨A1, c1, rfl⟩ := Kd.R_slice hr1; obtain ⟨A2, c2, rfl⟩ := Kd.R_slice hr2; have HR1 := Aside0.mk hr1; have HR2 := Aside0.mk hr2; have HS := Aside0.mk hop.st; clear hop hr1 hr2; have HK := Aside0.mk (blk_below HKb.out HS.out.bel); have HB := Aside0.mk (below_step HBb.out HS.out.bel); have HH := Aside0.mk (blk_below HHb.out HS.out.bel); have z0 : w4.cell? ⟨w.heap.size, 0, none⟩ = some (.int .u32 0) := (blk_cell HK.out 0).trans rfl; have f0 : w4.frozen? ⟨w.heap.size, 0, none⟩ = false := blk_frozen HK.out 0; have z1 : w4.cell? ⟨w.heap.size, 1, none⟩ = some (.slice none 0 0) := (blk_cell HK.out 1).trans rfl; have f1 : w4.frozen? ⟨w.heap.size, 1, none⟩ = false := blk_frozen HK.out 1; have z2 : w4.cell? ⟨w.heap.size, 2, none⟩ = some (.string ⟨#[]⟩) := (blk_cell HK.out 2).trans rfl; have f2 : w4.frozen? ⟨w.heap.size, 2, none⟩ = false := blk_frozen HK.out 2; have z3 : w4.cell? ⟨w.heap.size, 3, none⟩ = some (.slice none 0 0) := (blk_cell HK.out 3).trans rfl; have f3 : w4.frozen? ⟨w.heap.size, 3, none⟩ = false := blk_frozen HK.out 3; have z4 : w4.cell? ⟨w.heap.size, 4, none⟩ = some (.slice none 0 0) := (blk_cell HK.out 4).trans rfl; have f4 : w4.frozen? ⟨w.heap.size, 4, none⟩ = false := blk_frozen HK.out 4; have hlt : w.heap.size < w4.heap.size := blk_lt HK.out; have hh2 : w4.cell? ⟨gh, 2, none⟩ = some (.int .u32 h.c2) := (blk_cell HH.out 2).trans rfl; have hh3 : w4.cell? ⟨gh, 3, none⟩ = some (.int .u32 h.c3) := (blk_cell HH.out 3).trans rfl; have hh4 : w4.cell? ⟨gh, 4, none⟩ = some (.int .u32 h.c4) := (blk_cell HH.out 4).trans rfl; have hh7 : w4.cell? ⟨gh, 7, none⟩ = some (.int .u32 h.c7) := (blk_cell HH.out 7).trans rfl; have hh8 : w4.cell? ⟨gh, 8, none⟩ = some (.int .u32 h.c8) := (blk_cell HH.out 8).trans rfl; have hh9 : w4.cell? ⟨gh, 9, none⟩ = some (.int .u32 h.c9) := (blk_cell HH.out 9).trans rfl; have kr0 : w4.cell? ⟨wb.heap.size, 0, none⟩ = some (.slice (some ab) lb.length cb) := (blk_cell HS.out.blk 0).trans rfl) | (go_at_call 43; refine (reader_token.calls k (some ab) cb lb (.slice At lt.length ct) _ wb.heap.size wb _ _ _ _ HCb.out HCB.out (HS.out.below (below_alloc (Below.refl _ _) _)) HTK2.out).mono ?_; rintro e w5 ⟨rfl, hm⟩; have HN5 := Aside0.mk (blk_kept (blk_new w4 (.cells #[.string x.f0, .slice A1 x.f1.length c1, .slice A2 x.f2.length c2] 27 (0, 0))) hm.kept (fun e => Nat.ne_of_gt (blk_lt HS.out.blk) e)); have HR1 := Aside0.mk (R_keptg (Kd.R_below HR1.out (below_alloc (Below.refl _ _) _)) hm.kept (by simp; omega)); have HR2 := Aside0.mk (R_keptg (Kd.R_below HR2.out (below_alloc (Below.refl _ _) _)) hm.kept (by simp; omega)); have HS := Aside0.mk hm.st; clear hm; have HK := Aside0.mk (blk_below HKb.out HS.out.bel); have HB := Aside0.mk (below_step HBb.out HS.out.bel); have HH := Aside0.mk (blk_below HHb.out HS.out.bel); have z0 : w5.cell? ⟨w.heap.size, 0, none⟩ = some (.int .u32 0) := (blk_cell HK.out 0).trans rfl; have f0 : w5.frozen? ⟨w.heap.size, 0, none⟩ = false := blk_frozen HK.out 0; have z1 : w5.cell? ⟨w.heap.size, 1, none⟩ = some (.slice none 0 0) := (blk_cell HK.out 1).trans rfl; have f1 : w5.frozen? ⟨w.heap.size, 1, none⟩ = false := blk_frozen HK.out 1; have z2 : w5.cell? ⟨w.heap.size, 2, none⟩ = some (.string ⟨#[]⟩) := (blk_cell HK.out 2).trans rfl; have f2 : w5.frozen? ⟨w.heap.size, 2, none⟩ = false := blk_frozen HK.out 2; have z3 : w5.cell? ⟨w.heap.size, 3, none⟩ = some (.slice none 0 0) := (blk_cell HK.out 3).trans rfl; have f3 : w5.frozen? ⟨w.heap.size, 3, none⟩ = false := blk_frozen HK.out 3; have z4 : w5.cell? ⟨w.heap.size, 4, none⟩ = some (.slice none 0 0) := (blk_cell HK.out 4).trans rfl; have f4 : w5.frozen? ⟨w.heap.size, 4, none⟩ = false := blk_frozen HK.out 4; have hlt : w.heap.size < w5.heap.size := blk_lt HK.out; have hh2 : w5.cell? ⟨gh, 2, none⟩ = some (.int .u32 h.c2) := (blk_cell HH.out 2).trans rfl; have hh3 : w5.cell? ⟨gh, 3, none⟩ = some (.int .u32 h.c3) := (blk_cell HH.out 3).trans rfl; have hh4 : w5.cell? ⟨gh, 4, none⟩ = some (.int .u32 h.c4) := (blk_cell HH.out 4).trans rfl; have hh7 : w5.cell? ⟨gh, 7, none⟩ = some (.int .u32 h.c7) := (blk_cell HH.out 7).trans rfl; have hh8 : w5.cell? ⟨gh, 8, none⟩ = some (.int .u32 h.c8) := (blk_cell HH.out 8).trans rfl; have hh9 : w5.cell? ⟨gh, 9, none⟩ = some (.int .u32 h.c9) := (blk_cell HH.out 9).trans rfl; have kr0 : w5.cell? ⟨wb.heap.size, 0, none⟩ = some (.slice (some ab) lb.length cb) := (blk_cell HS.out.blk 0).trans rfl; have kr2 : w5.cell? ⟨wb.heap.size, 2, none⟩ = some (.int .i64 uq) := (blk_cell HS.out.blk 2).trans rfl; have kn0 : w5.cell? ⟨w4.heap.size, 0, none⟩ = some (.string x.f0) := (blk_cell HN5.out 0).trans rfl; have kn1 : w5.cell? ⟨w4.heap.size, 1, none⟩ = some (.slice A1 x.f1.length c1) := (blk_cell HN5.out 1).trans rfl; have kn2 : w5.cell? ⟨w4.heap.size, 2, none⟩ = some (.slice A2 x.f2.length c2) := (blk_cell HN5.out 2).trans rfl))
          go_quiet (fail)
          go_wp2_with (go_at_call 45; refine (tree_Count.calls k x.f0 A1 c1 x.f1 A2 c2 x.f2 ca cc _ (Kd.C_below (Kd.R_reads' HR1.out).2.2 (by repeat (first | exact Below.refl _ _ | refine pw_below_drewN ?_ _))) (Kd.R_reads' HR1.out).2.1 (Kd.C_below (Kd.R_reads' HR2.out).2.2 (by repeat (first | exact Below.refl _ _ | refine pw_below_drewN ?_ _))) (Kd.R_reads' HR2.out).2.1 HCN.out).mono ?_; rintro e w6 ⟨rfl, hb6⟩; have HB6 := Aside0.mk hb6; have HN6 := Aside0.mk (blk_below (blk_drewN HN5.out _) hb6); have HK := Aside0.mk (blk_below (blk_drewN HK.out _) hb6); have HH := Aside0.mk (blk_below (blk_drewN HH.out _) hb6); have HR1 := Aside0.mk (Kd.R_below (Kd.R_drewN HR1.out _) hb6); have HR2 := Aside0.mk (Kd.R_below (Kd.R_drewN HR2.out _) hb6); have HB := Aside0.mk (below_step (pw_below_drewN HB.out _) hb6); have HBB := Aside0.mk (below_step (pw_below_drewN HS.out.bel _) hb6); clear hb6; have z0 : w6.cell? ⟨w.heap.size, 0, none⟩ = some (.int .u32 0) := (blk_cell HK.out 0).trans rfl; have f0 : w6.frozen? ⟨w.heap.size, 0, none⟩ = false := blk_frozen HK.out 0; have z1 : w6.cell? ⟨w.heap.size, 1, none⟩ = some (.slice none 0 0) := (blk_cell HK.out 1).trans rfl; have f1 : w6.frozen? ⟨w.heap.size, 1, none⟩ = false := blk_frozen HK.out 1; have z2 : w6.cell? ⟨w.heap.size, 2, none⟩ = some (.string ⟨#[]⟩) := (blk_cell HK.out 2).trans rfl; have f2 : w6.frozen? ⟨w.heap.size, 2, none⟩ = false := blk_frozen HK.out 2; have z3 : w6.cell? ⟨w.heap.size, 3, none⟩ = some (.slice none 0 0) := (blk_cell HK.out 3).trans rfl; have f3 : w6.frozen? ⟨w.heap.size, 3, none⟩ = false := blk_frozen HK.out 3; have z4 : w6.cell? ⟨w.heap.size, 4, none⟩ = some (.slice none 0 0) := (blk_cell HK.out 4).trans rfl; have f4 : w6.frozen? ⟨w.heap.size, 4, none⟩ = false := blk_frozen HK.out 4; have hlt : w.heap.size < w6.heap.size := blk_lt HK.out; have hh2 : w6.cell? ⟨gh, 2, none⟩ = some (.int .u32 h.c2) := (blk_cell HH.out 2).trans rfl; have hh3 : w6.cell? ⟨gh, 3, none⟩ = some (.int .u32 h.c3) := (blk_cell HH.out 3).trans rfl; have hh4 : w6.cell? ⟨gh, 4, none⟩ = some (.int .u32 h.c4) := (blk_cell HH.out 4).trans rfl; have hh7 : w6.cell? ⟨gh, 7, none⟩ = some (.int .u32 h.c7) := (blk_cell HH.out 7).trans rfl; have hh8 : w6.cell? ⟨gh, 8, none⟩ = some (.int .u32 h.c8) := (blk_cell HH.out 8).trans rfl; have hh9 : w6.cell? ⟨gh, 9, none⟩ = some (.int .u32 h.c9) := (blk_cell HH.out 9).trans rfl; have kn0 : w6.cell? ⟨w4.heap.size, 0, none⟩ = some (.string x.f0) := (blk_cell HN6.out 0).trans rfl; have kn1 : w6.cell? ⟨w4.heap.size, 1, none⟩ = some (.slice A1 x.f1.length c1) := (blk_cell HN6.out 1).trans rfl; have kn2 : w6.cell? ⟨w4.heap.size, 2, none⟩ = some (.slice A2 x.f2.length c2) := (blk_cell HN6.out 2).trans rfl)
          refine bodyPost_ret (results_ct rfl _ _ w.heap.size 29 #[.int .u32 h.c7, .slice Ar rs.length cr, .string x.f0, .slice A1 x.f1.length c1, .slice A2 x.f2.length c2] (0, 0) _ rfl (by refine blk_put (cs := #[.int .u32 h.c7, .slice Ar rs.length cr, .string x.f0, .slice A1 x.f1.length c1, .slice none 0 0]) ?_ 4 _ rfl; refine blk_put (cs := #[.int .u32 h.c7, .slice Ar rs.length cr, .string x.f0, .slice none 0 0, .slice none 0 0]) ?_ 3 _ rfl; refine blk_put (cs := #[.int .u32 h.c7, .slice Ar rs.length cr, .string ⟨#[]⟩, .slice none 0 0, .slice none 0 0]) ?_ 2 _ rfl; refine blk_put (cs := #[.int .u32 h.c7, .slice none 0 0, .string ⟨#[]⟩, .slice none 0 0, .slice none 0 0]) ?_ 1 _ rfl; refine blk_put (cs := #[.int .u32 0, .slice none 0 0, .string ⟨#[]⟩, .slice none 0 0, .slice none 0 0]) ?_ 0 _ rfl; exact HK.out) Try.underlying29 rfl (by kernel_rfl)) rfl ⟨_, _, _, rfl, ?_, ?_, ?_, ?_⟩
          · exact Kd.R_lower (R_out5 (Kd.R_below HVb.out HBB.out) (Nat.lt_succ_self _) _ _ _ _ _) (Nat.le_succ _)
          · exact Kd.R_lower (R_out5 HR1.out (by simp; omega) _ _ _ _ _) (by simp; omega)
          · exact Kd.R_lower (R_out5 HR2.out (by simp; omega) _ _ _ _ _) (by simp; omega)
          · repeat (first | (with_reducible exact HB.out) | (refine Below.setCell ?_ (by exact Nat.le_refl _) _))
end Go.Proofs.Ytkopmkinlanhoaa.PE

namespace Go.Proofs.Ytkopmkinlanhoaa.PE
open Go.RowKit Go.Proofs.YtkopmkinlanhoaaW.PrintWords Go.Proofs.YtkopmkinlanhoaaW.PrintLast Go.Proofs.YtkopmkinlanhoaaW.PrintMore
attribute [local go_sem] max2_int min2_int max_two min_two max_three min_three max_four min_four
set_option linter.unusedVariables false
set_option linter.unusedSimpArgs false
def encode_Layout.f (k : Nat) (b : List Int) : Option Bool :=
  (decode_Decode.f k b).bind fun d => if d.2 = 0 then (if 0 ≤ d.1.f0 ∧ d.1.f0 < 4294967296 then (encode_Encode.f k d.1.f0 d.1.f1 d.1.f2.f0 d.1.f2.f1 d.1.f2.f2).bind fun c => (if c.2 = 0 then bytes_Equal.f b c.1 else some false) else none) else some false
set_option maxRecDepth 100000 in
set_option maxHeartbeats 2000000 in
theorem encode_Layout.calls (k : Nat) (A0 : Option Addr) (c0 : Nat) (l0 : List Int) (r : Bool) (w : World) (hr0 : Kd.C (Kd.int .u8) w A0 l0.length l0) (hc0 : l0.length ≤ c0) (h : encode_Layout.f k l0 = some r) :
    Calls Try.prog 26 #[.slice A0 l0.length c0] w fun e w' => e = .returned (.bool r) ∧ Below w.heap.size w w' := by
  obtain ⟨⟨t, e1⟩, hd, h⟩ := Option.bind_eq_some_iff.mp h
  simp only at h
  have hu29 := Try.underlying29
  have hu27 := Try.underlying27
  have HD := Aside0.mk (decode_Decode.calls k A0 c0 l0 t e1 w hr0 hc0 hd)
  have HR0 := Aside0.mk hr0
  have HC0 := Aside0.mk hc0
  clear hr0 hc0 hd
  by_cases he : e1 = 0
  · rw [if_pos he] at h
    subst he
    by_cases hg : 0 ≤ t.f0 ∧ t.f0 < 4294967296
    · rw [if_pos hg] at h
      have HRG := Aside0.mk hg
      clear hg
      obtain ⟨⟨c, e2⟩, hc, h⟩ := Option.bind_eq_some_iff.mp h
      simp only at h
      have HE := Aside0.mk hc
      clear hc
      by_cases he2 : e2 = 0
      · rw [if_pos he2] at h
        subst he2
        have H := Aside0.mk h
        clear h
        go_enter Try.func26, Try.ntmps26
        go_wp2_with (first | (go_at_call 22; refine HD.out.mono ?_; rintro e w1 ⟨vr, v1, v2, rfl, h1, h2, h3, hb⟩; obtain ⟨Ar, cr, rfl, hcr, hCr⟩ := Kd.R_reads h1; obtain ⟨Ap, cp, rfl, hcp, hCp⟩ := Kd.R_reads h2; obtain ⟨Ak, ck, rfl, hck, hCk⟩ := Kd.R_reads h3; have HB1 := Aside0.mk hb; have XR := Aside0.mk (And.intro hCr hcr); have XP := Aside0.mk (And.intro hCp hcp); have XK := Aside0.mk (And.intro hCk hck); clear h1 h2 h3 hb hCr hcr hCp hcp hCk hck) | (go_at_call 24; have hbx := below_alloc (Below.refl w1.heap.size w1) (.cells #[.int .u32 t.f0, .slice Ar t.f1.length cr, .string t.f2.f0, .slice Ap t.f2.f1.length cp, .slice Ak t.f2.f2.length ck] 29); refine (encode_Encode.calls k t.f0 Ar cr t.f1 t.f2.f0 Ap cp t.f2.f1 Ak ck t.f2.f2 c _ _ (Kd.C_below XR.out.1 hbx) XR.out.2 (Kd.C_below XP.out.1 hbx) XP.out.2 (Kd.C_below XK.out.1 hbx) XK.out.2 HRG.out HE.out).mono ?_; rintro e w2 ⟨v3, rfl, h3, hb⟩; obtain ⟨Ac, cc, rfl, hcc, hCc⟩ := Kd.R_reads h3; have HB2 := Aside0.mk (below_step (below_step HB1.out hbx) hb); have XC := Aside0.mk (And.intro hCc hcc); clear h3 hb hCc hcc hbx) | (go_at_call 55; refine (bytes_Equal.calls A0 c0 l0 Ac cc c r w2 (Kd.C_below HR0.out HB2.out) HC0.out XC.out.1 XC.out.2 H.out).mono ?_; rintro e w3 ⟨rfl, ⟨nd, rfl⟩⟩))
        refine bodyPost_ret (results_tmp rfl _ _ _) rfl ?_
        exact ⟨rfl, pw_below_drewN HB2.out _⟩
      · rw [if_neg he2] at h
        obtain rfl : false = r := by simpa using h
        have b0 : (e2 == 0) = false := beq_eq_false_iff_ne.mpr he2
        clear h he2
        go_enter Try.func26, Try.ntmps26
        go_wp2_with (first | (go_at_call 22; refine HD.out.mono ?_; rintro e w1 ⟨vr, v1, v2, rfl, h1, h2, h3, hb⟩; obtain ⟨Ar, cr, rfl, hcr, hCr⟩ := Kd.R_reads h1; obtain ⟨Ap, cp, rfl, hcp, hCp⟩ := Kd.R_reads h2; obtain ⟨Ak, ck, rfl, hck, hCk⟩ := Kd.R_reads h3; have HB1 := Aside0.mk hb; have XR := Aside0.mk (And.intro hCr hcr); have XP := Aside0.mk (And.intro hCp hcp); have XK := Aside0.mk (And.intro hCk hck); clear h1 h2 h3 hb hCr hcr hCp hcp hCk hck) | (go_at_call 24; have hbx := below_alloc (Below.refl w1.heap.size w1) (.cells #[.int .u32 t.f0, .slice Ar t.f1.length cr, .string t.f2.f0, .slice Ap t.f2.f1.length cp, .slice Ak t.f2.f2.length ck] 29); refine (encode_Encode.calls k t.f0 Ar cr t.f1 t.f2.f0 Ap cp t.f2.f1 Ak ck t.f2.f2 c _ _ (Kd.C_below XR.out.1 hbx) XR.out.2 (Kd.C_below XP.out.1 hbx) XP.out.2 (Kd.C_below XK.out.1 hbx) XK.out.2 HRG.out HE.out).mono ?_; rintro e w2 ⟨v3, rfl, h3, hb⟩; obtain ⟨Ac, cc, rfl, hcc, hCc⟩ := Kd.R_reads h3; have HB2 := Aside0.mk (below_step (below_step HB1.out hbx) hb); have XC := Aside0.mk (And.intro hCc hcc); clear h3 hb hCc hcc hbx))
        refine bodyPost_ret (results_tmp rfl _ _ _) rfl ?_
        exact ⟨rfl, HB2.out⟩
    · rw [if_neg hg] at h
      exact absurd h (by simp)
  · rw [if_neg he] at h
    obtain rfl : false = r := by simpa using h
    have b0 : (e1 == 0) = false := beq_eq_false_iff_ne.mpr he
    have b1 : (e1 != 0) = true := bne_iff_ne.mpr he
    clear h he
    go_enter Try.func26, Try.ntmps26
    go_wp2_with (go_at_call 22; refine HD.out.mono ?_; rintro e w1 ⟨vr, v1, v2, rfl, h1, h2, h3, hb⟩; obtain ⟨Ar, cr, rfl, hcr, hCr⟩ := Kd.R_reads h1; obtain ⟨Ap, cp, rfl, hcp, hCp⟩ := Kd.R_reads h2; obtain ⟨Ak, ck, rfl, hck, hCk⟩ := Kd.R_reads h3; have HB1 := Aside0.mk hb; have XR := Aside0.mk (And.intro hCr hcr); have XP := Aside0.mk (And.intro hCp hcp); have XK := Aside0.mk (And.intro hCk hck); clear h1 h2 h3 hb hCr hcr hCp hcp hCk hck)
    refine bodyPost_ret (results_tmp rfl _ _ _) rfl ?_
    exact ⟨rfl, below_alloc HB1.out _⟩
def b72 : List Int := ((encode_Encode.f 20 0 [] ⟨#[]⟩ [] []).getD ([], 1)).1
set_option maxRecDepth 100000 in
theorem enc72 : encode_Encode.f 20 0 [] ⟨#[]⟩ [] [] = some (b72, 0) := by kernel_rfl
theorem len72 : b72.length = 72 := by kernel_rfl
set_option maxRecDepth 100000 in
theorem lay72 : encode_Layout.f 80 b72 = some true := by kernel_rfl
end Go.Proofs.Ytkopmkinlanhoaa.PE

namespace Go.Proofs.Ytkopmkinlanhoaa.PE
open Go.RowKit Go.Proofs.YtkopmkinlanhoaaW.PrintWords Go.Proofs.YtkopmkinlanhoaaW.PrintLast Go.Proofs.YtkopmkinlanhoaaW.PrintMore
attribute [local go_sem] max2_int min2_int max_two min_two max_three min_three max_four min_four
set_option linter.unusedVariables false
set_option linter.unusedSimpArgs false
set_option maxRecDepth 100000 in
set_option maxHeartbeats 2000000 in
theorem awake05.calls (w : World) : Calls Try.prog 23 #[] w fun e w' => e = .returned (.bool true) ∧ Below w.heap.size w w' := by
  have HE := Aside0.mk (encode_Encode.calls 20 0 none 0 [] ⟨#[]⟩ none 0 [] none 0 [] b72 0 w (Kd.C_nil _ _) (Nat.le_refl _) (Kd.C_nil _ _) (Nat.le_refl _) (Kd.C_nil _ _) (Nat.le_refl _) (by decide) enc72)
  have HL : Aside0 (∀ (A : Option Addr) (c : Nat) (W : World), Kd.C (Kd.int .u8) W A 72 b72 → 72 ≤ c → Calls Try.prog 26 #[.slice A 72 c] W fun e w' => e = .returned (.bool true) ∧ Below W.heap.size W w') := ⟨fun A c W h1 h2 => by
    have h := encode_Layout.calls 80 A c b72 true W (by rw [len72]; exact h1) (by rw [len72]; exact h2) lay72
    rw [len72] at h
    exact h⟩
  go_enter Try.func23, Try.ntmps23
  go_wp2_with (first | (go_at_call 24; refine HE.out.mono ?_; rintro e w1 ⟨v, rfl, hr, hb⟩; obtain ⟨Ab, cb, rfl, hcb, hCb⟩ := Kd.R_reads hr; rw [len72] at hcb hCb ⊢; have HX := Aside0.mk (And.intro hCb hcb); have HB1 := Aside0.mk hb; clear hr hb hcb hCb) | (go_at_call 26; refine (HL.out Ab cb w1 HX.out.1 HX.out.2).mono ?_; rintro e w2 ⟨rfl, hb⟩; have HB2 := Aside0.mk (below_step HB1.out hb); clear hb))
  refine bodyPost_ret (results_tmp rfl _ _ _) rfl ?_
  exact ⟨rfl, HB2.out⟩
end Go.Proofs.Ytkopmkinlanhoaa.PE

namespace Go.Proofs.Ytkopmkinlanhoaa.PE
open Go.RowKit Go.Proofs.YtkopmkinlanhoaaW.PrintWords Go.Proofs.YtkopmkinlanhoaaW.PrintLast Go.Proofs.YtkopmkinlanhoaaW.PrintMore
attribute [local go_sem] max2_int min2_int max_two min_two max_three min_three max_four min_four
set_option linter.unusedVariables false
set_option linter.unusedSimpArgs false
theorem many_chk (v : List Int) : tree_Check.f 20 0 [] ⟨#[]⟩ [⟨⟨#[97]⟩, v⟩] [] = some 0 := by kernel_rfl
theorem padW_length (l : List Int) : ((padW l).length : Int) = (4 - (l.length : Int) % 4) % 4 := by
  unfold padW
  rw [List.length_replicate, padN_eq _ (by omega)]
  omega
theorem many_most (v : List Int) (hv : v.length ≤ 2000000) : encode_most.f 20 ⟨#[]⟩ [⟨⟨#[97]⟩, v⟩] [] 0 = some ((v.length : Int), decide ((v.length : Int) > 1048576)) := by
  have w0 : wrap64 (0 + (v.length : Int)) = v.length := by unfold wrap64; omega
  have w1 : wrap64 (0 + 1) = 1 := by unfold wrap64; omega
  have r0 : rd_T63 [⟨⟨#[97]⟩, v⟩] 0 = ⟨⟨#[97]⟩, v⟩ := rfl
  simp only [encode_most.f, encode_most.l0, r0]
  rw [if_pos (by simp), if_pos (by decide), if_pos (by simp), w0]
  by_cases c : (v.length : Int) > 1048576
  · rw [if_pos c, decide_eq_true c]
  · rw [if_neg c, decide_eq_false c, w1, if_neg (by simp)]
    simp only [encode_most.l1]
    rw [if_neg (by decide)]
def s0_ : WSt := wOpen ⟨#[]⟩ ([], [], [])
theorem s0_len : s0_.1.length = 8 ∧ s0_.2.1 = [] ∧ s0_.2.2 = [] := ⟨by kernel_rfl, by kernel_rfl, by kernel_rfl⟩
theorem s0_cap : capW (wOpen ⟨#[]⟩ ([], [], [])) = some s0_ := by kernel_rfl
theorem s1_len (v : List Int) : (wProp ⟨⟨#[97]⟩, v⟩ s0_).1.length = 20 + v.length + (padW v).length ∧ (wProp ⟨⟨#[97]⟩, v⟩ s0_).2.1.length = 2 ∧ (wProp ⟨⟨#[97]⟩, v⟩ s0_).2.2.length = 1 := by
  have h := s0_len
  refine ⟨?_, ?_, ?_⟩
  · simp [wProp, wBytes, wCell, wText, cellB_length, h.1]
    omega
  · simp [wProp, wBytes, wCell, wText, textT, h.2.1, h.2.2, firstI, bytesOf]
  · simp [wProp, wBytes, wCell, wText, textH, h.2.1, h.2.2, firstI]
theorem many_wr (v : List Int) (hv : v.length ≤ 2000000) : wrN 20 ⟨⟨#[]⟩, [⟨⟨#[97]⟩, v⟩], []⟩ ([], [], []) = some (wCell 2 (wProp ⟨⟨#[97]⟩, v⟩ s0_)) := by
  have h := s1_len v
  have hp := padW_length v
  have w1 : wrap64 (0 + 1) = 1 := by unfold wrap64; omega
  have r0 : rd_T63 [⟨⟨#[97]⟩, v⟩] 0 = ⟨⟨#[97]⟩, v⟩ := rfl
  have c1 : capW (wProp ⟨⟨#[97]⟩, v⟩ s0_) = some (wProp ⟨⟨#[97]⟩, v⟩ s0_) := by
    unfold capW
    rw [if_pos]
    unfold totW
    omega
  have c2 : capW (wCell 2 (wProp ⟨⟨#[97]⟩, v⟩ s0_)) = some (wCell 2 (wProp ⟨⟨#[97]⟩, v⟩ s0_)) := by
    unfold capW
    rw [if_pos]
    rw [totW_cell]
    unfold totW
    omega
  simp only [wrN, s0_cap, Option.bind_some, wrP, r0]
  rw [if_pos (by simp), if_pos (by decide), if_pos (by decide), c1]
  simp only [Option.bind_some]
  rw [w1, if_neg (by simp)]
  simp only [wrK]
  rw [if_neg (by decide)]
  exact c2
theorem enc_eval (k : Nat) (a0 : Int) (l1 : List S82) (a2 : ByteArray) (l3 : List S63) (l4 : List S27) (m : Int) (s : WSt) (h1 : tree_Check.f k a0 l1 a2 l3 l4 = some 0) (h2 : encode_most.f k a2 l3 l4 0 = some (m, false)) (h3 : wrN k ⟨a2, l3, l4⟩ ([], [], []) = some s) (h4 : totW s + 4 ≤ 549755813888) (h5 : l1.length ≤ 64) : encode_Encode.f k a0 l1 a2 l3 l4 = some (encF a0 l1 (wCell 9 s)) := by
  unfold encode_Encode.f
  have h6 : capW (wCell 9 s) = some (wCell 9 s) := by
    unfold capW
    rw [if_pos]
    rw [totW_cell]
    exact h4
  rw [h1, Option.bind_some, if_pos rfl, h2, Option.bind_some, if_neg (by simp), h3, Option.bind_some, h6, Option.bind_some, if_pos h5]
theorem enc_most_eval (k : Nat) (a0 : Int) (l1 : List S82) (a2 : ByteArray) (l3 : List S63) (l4 : List S27) (m : Int) (h1 : tree_Check.f k a0 l1 a2 l3 l4 = some 0) (h2 : encode_most.f k a2 l3 l4 0 = some (m, true)) : encode_Encode.f k a0 l1 a2 l3 l4 = some ([], 7) := by
  unfold encode_Encode.f
  rw [h1, Option.bind_some, if_pos rfl, h2, Option.bind_some, if_pos rfl]
theorem encF_len (a0 : Int) (l1 : List S82) (s : WSt) : (40 + 16 * (l1.length + 1) + s.1.length + s.2.1.length > 1048576 ∧ encF a0 l1 s = ([], 7)) ∨ (¬ 40 + 16 * (l1.length + 1) + s.1.length + s.2.1.length > 1048576 ∧ ∃ X : List Int, encF a0 l1 s = (X, 0) ∧ X.length = 40 + 16 * (l1.length + 1) + s.1.length + s.2.1.length) := by
  have lr : (resB (l1 ++ [(⟨0, 0⟩ : S82)])).length = 16 * (l1.length + 1) := by rw [resB_length, List.length_append]; rfl
  unfold encF
  by_cases c2 : 40 + (resB (l1 ++ [(⟨0, 0⟩ : S82)])).length + s.1.length + s.2.1.length > 1048576
  · left
    rw [if_pos c2]
    exact ⟨by omega, rfl⟩
  · right
    rw [if_neg c2]
    refine ⟨by omega, _, rfl, ?_⟩
    rw [List.length_append, List.length_append, List.length_append, headB_length, lr]
    show 4 * 10 + _ = _
    omega
theorem many_enc (v : List Int) (hv : v.length ≤ 2000000) : ∃ r e, encode_Encode.f 20 0 [] ⟨#[]⟩ [⟨⟨#[97]⟩, v⟩] [] = some (r, e) ∧ (if (84 + ((v.length : Int) + 3) / 4 * 4 + 2) > 1048576 then e = 7 ∧ r.length = 0 else e = 0 ∧ (r.length : Int) = 84 + ((v.length : Int) + 3) / 4 * 4 + 2) := by
  obtain ⟨h1, h2, h3⟩ := s1_len v
  have hp := padW_length v
  have hm := many_most v hv
  have hc := many_chk v
  have hw := many_wr v hv
  generalize (⟨⟨#[97]⟩, v⟩ : S63) = p at h1 h2 h3 hm hc hw ⊢
  generalize wProp p s0_ = s1 at h1 h2 h3 hw
  by_cases c : (v.length : Int) > 1048576
  · rw [decide_eq_true c] at hm
    refine ⟨[], 7, enc_most_eval _ _ _ _ _ _ _ hc hm, ?_⟩
    rw [if_pos (by omega)]
    exact ⟨rfl, rfl⟩
  · rw [decide_eq_false c] at hm
    have he := enc_eval 20 0 [] ⟨#[]⟩ [p] [] _ _ hc hm hw (by rw [totW_cell]; unfold totW; omega) (by decide)
    have l1 : (wCell 9 (wCell 2 s1)).1.length = 28 + v.length + (padW v).length := by simp [wCell, cellB_length]; omega
    have l2 : (wCell 9 (wCell 2 s1)).2.1.length = 2 := h2
    generalize wCell 9 (wCell 2 s1) = s5 at he l1 l2
    rw [he]
    rcases encF_len 0 [] s5 with ⟨c2, hE⟩ | ⟨c2, X, hE, hl⟩
    · simp only [List.length_nil] at c2
      refine ⟨[], 7, by rw [hE], ?_⟩
      rw [if_pos (by omega)]
      exact ⟨rfl, rfl⟩
    · simp only [List.length_nil] at c2 hl
      refine ⟨X, 0, by rw [hE], ?_⟩
      rw [if_neg (by omega)]
      exact ⟨rfl, by omega⟩
end Go.Proofs.Ytkopmkinlanhoaa.PE

namespace Go.Proofs.Ytkopmkinlanhoaa.PE
open Go.RowKit Go.Proofs.YtkopmkinlanhoaaW.PrintWords Go.Proofs.YtkopmkinlanhoaaW.PrintLast Go.Proofs.YtkopmkinlanhoaaW.PrintMore
attribute [local go_sem] max2_int min2_int max_two min_two max_three min_three max_four min_four
set_option linter.unusedVariables false
set_option linter.unusedSimpArgs false
theorem one_C (W : World) (b : Nat) (x : ByteArray) (A : Option Addr) (c : Nat) (l : List Int) (h : W.heap[b]? = some (.cells #[.string x, .slice A l.length c] 63 (0, 0))) (hC : Kd.C (Kd.int .u8) W A l.length l) (hc : l.length ≤ c) : Kd.C k63 W (some ⟨b, 0, none⟩) 1 [⟨x, l⟩] := by
  refine ⟨rfl, by decide, fun _ => ⟨_, rfl, fun j p hj => ?_⟩⟩
  cases j with
  | succ j => simp at hj
  | zero =>
    obtain rfl : (⟨x, l⟩ : S63) = p := by simpa using hj
    refine ⟨[.string x, .slice A l.length c], rfl, ⟨_, _, rfl, rfl, ⟨A, c, rfl, hc, hC⟩⟩, fun i u hu => ?_⟩
    have e : ∀ i, (⟨b, 0, none⟩ : Addr).add (0 * k63.sz + i) = ⟨b, i, none⟩ := fun i => by rw [Nat.zero_mul, Nat.zero_add, add_plain]
    rw [e]
    rw [blk_cell h i]
    simpa using hu
set_option maxRecDepth 100000 in
set_option maxHeartbeats 2000000 in
theorem many.calls (n : Int) (w : World) (h0 : 0 ≤ n) (h1 : n ≤ 4294967295) : Calls Try.prog 8 #[.int .u32 n] w fun e w' => e = .returned (.bool true) ∧ Below w.heap.size w w' := by
  have HAW := Aside0.mk (awake05.calls w)
  have hu29 := Try.underlying29
  have hu27 := Try.underlying27
  have hu63 := Try.underlying63
  obtain ⟨vl, hvl⟩ : ∃ vl, vl = List.replicate (1048376 + n % 300).toNat (0 : Int) := ⟨_, rfl⟩
  have hl5 : (vl.length : Int) = 1048376 + n % 300 := by rw [hvl, List.length_replicate]; omega
  have HVL := Aside0.mk hvl
  obtain ⟨r, er, hme, hcase⟩ := many_enc vl (by omega)
  rw [hl5] at hcase
  clear hvl hl5
  by_cases c : 84 + (1048376 + n % 300 + 3) / 4 * 4 + 2 > 1048576
  · rw [if_pos c] at hcase
    obtain ⟨rfl, hr0⟩ := hcase
    obtain rfl := List.eq_nil_of_length_eq_zero hr0
    have HMX := Aside0.mk hme
    have d1 : decide (1048576 < 84 + (1048376 + n % 300 + 3) / 4 * 4 + 2) = true := decide_eq_true c
    clear hr0 hme
    go_enter Try.func8, Try.ntmps8
    go_wp2_with (first | (go_at_call 23; refine HAW.out.mono ?_; rintro e w1 ⟨rfl, hb⟩; have HB1 := Aside0.mk hb; clear hb) | ((with_reducible refine gate_dst (N := 15) rfl ?_); refine Kd.R_make (Kd.int .u8) _ 5 rfl (N := 15) rfl 45 _ _ rfl (1048376 + n % 300) rfl rfl Try.underlying45 (.int .u8 0) 1 info5 rfl (by decide) (by omega) 0 (ok := fun _ => True) (okp := fun _ => True) rfl (fun _ hk => hk) trivial (by omega) (by omega) (Below.refl _ _) (Nat.le_refl _) ?_; intro v5 w5 ho hb hg hnew; rw [← HVL.out] at ho; obtain ⟨A5, c5, rfl, hc5, hC5⟩ := Kd.R_reads ho; have HX5 := Aside0.mk (And.intro hC5 hc5); have HB5 := Aside0.mk (below_step HB1.out hb); clear ho hb hg hnew hc5 hC5) | (go_at_call 24; have hbp := below_alloc (below_alloc (Below.refl w5.heap.size w5) (.cells #[.string ⟨#[97]⟩, .slice A5 vl.length c5] 63)) (.cells #[.int .u32 0, .slice none 0 0, .string ⟨#[]⟩, .slice (some ⟨w5.heap.size, 0, none⟩) 1 1, .slice none 0 0] 29); refine (encode_Encode.calls 20 0 none 0 [] ⟨#[]⟩ (some ⟨w5.heap.size, 0, none⟩) 1 [⟨⟨#[97]⟩, vl⟩] none 0 [] _ _ _ (Kd.C_nil _ _) (Nat.le_refl _) (one_C _ w5.heap.size ⟨#[97]⟩ A5 c5 vl (blk_alloc (blk_new _ _) _) (Kd.C_below HX5.out.1 hbp) HX5.out.2) (Nat.le_refl _) (Kd.C_nil _ _) (Nat.le_refl _) (by decide) HMX.out).mono ?_; rintro e w6 ⟨v6, rfl, hr, hb⟩; obtain ⟨A6, c6, rfl⟩ := Kd.R_slice hr; have HB6 := Aside0.mk (below_step (below_step HB5.out hbp) hb); clear hr hb hbp))
    refine bodyPost_ret (results_tmp rfl _ _ _) rfl ?_
    exact ⟨rfl, HB6.out⟩
  · rw [if_neg c] at hcase
    obtain ⟨rfl, hr0⟩ := hcase
    have HMX := Aside0.mk hme
    have d1 : decide (1048576 < 84 + (1048376 + n % 300 + 3) / 4 * 4 + 2) = false := decide_eq_false c
    have q1 : ((r.length : Int) == 84 + (1048376 + n % 300 + 3) / 4 * 4 + 2) = true := beq_iff_eq.mpr hr0
    clear hr0 hme
    go_enter Try.func8, Try.ntmps8
    go_wp2_with (first | (go_at_call 23; refine HAW.out.mono ?_; rintro e w1 ⟨rfl, hb⟩; have HB1 := Aside0.mk hb; clear hb) | ((with_reducible refine gate_dst (N := 15) rfl ?_); refine Kd.R_make (Kd.int .u8) _ 5 rfl (N := 15) rfl 45 _ _ rfl (1048376 + n % 300) rfl rfl Try.underlying45 (.int .u8 0) 1 info5 rfl (by decide) (by omega) 0 (ok := fun _ => True) (okp := fun _ => True) rfl (fun _ hk => hk) trivial (by omega) (by omega) (Below.refl _ _) (Nat.le_refl _) ?_; intro v5 w5 ho hb hg hnew; rw [← HVL.out] at ho; obtain ⟨A5, c5, rfl, hc5, hC5⟩ := Kd.R_reads ho; have HX5 := Aside0.mk (And.intro hC5 hc5); have HB5 := Aside0.mk (below_step HB1.out hb); clear ho hb hg hnew hc5 hC5) | (go_at_call 24; have hbp := below_alloc (below_alloc (Below.refl w5.heap.size w5) (.cells #[.string ⟨#[97]⟩, .slice A5 vl.length c5] 63)) (.cells #[.int .u32 0, .slice none 0 0, .string ⟨#[]⟩, .slice (some ⟨w5.heap.size, 0, none⟩) 1 1, .slice none 0 0] 29); refine (encode_Encode.calls 20 0 none 0 [] ⟨#[]⟩ (some ⟨w5.heap.size, 0, none⟩) 1 [⟨⟨#[97]⟩, vl⟩] none 0 [] _ _ _ (Kd.C_nil _ _) (Nat.le_refl _) (one_C _ w5.heap.size ⟨#[97]⟩ A5 c5 vl (blk_alloc (blk_new _ _) _) (Kd.C_below HX5.out.1 hbp) HX5.out.2) (Nat.le_refl _) (Kd.C_nil _ _) (Nat.le_refl _) (by decide) HMX.out).mono ?_; rintro e w6 ⟨v6, rfl, hr, hb⟩; obtain ⟨A6, c6, rfl⟩ := Kd.R_slice hr; have HB6 := Aside0.mk (below_step (below_step HB5.out hbp) hb); clear hr hb hbp))
    refine bodyPost_ret (results_tmp rfl _ _ _) rfl ?_
    exact ⟨rfl, HB6.out⟩
end Go.Proofs.Ytkopmkinlanhoaa.PE

namespace Go.Proofs.Ytkopmkinlanhoaa.encodeMany
open Go.ChangeShapes Go.WideShapes Go.ChangeAt Go.RowKit Go.Proofs.Ytkopmkinlanhoaa.Rdr Go.Proofs.Ytkopmkinlanhoaa.PE
set_option linter.unusedVariables false
set_option linter.unusedSimpArgs false
theorem own : ownKnob Try.prog.godebug = none := by kernel_rfl
theorem laidOut : laidOutB Try.prog = true := by kernel_rfl
set_option maxRecDepth 100000 in
theorem contract (H : Type) (enc : TypeId × Value → H) (W : World) (base : Nat) (args : Array Value) (ds gs : List (DataW H)) (before : List MemPlace)
    (hval0 : ∀ (j : Nat) t v, Try.f8.params[j]? = some t → args[j]? = some v → Value.okWide Try.prog W .any base t v)
    (hW : DataW.Whole enc Try.prog Try.f8.params.toList Rows.encodeManySpec.vars false W args.toList ds gs before) :
    Calls Try.prog 8 args W fun e W' => ∃ v, e = .returned v ∧ Rows.encodeManySpec.post enc Try.prog Try.f8 false true false false W args v W' := by
  have hval : ∀ (j : Nat) t v, Try.f8.params[j]? = some t → args[j]? = some v → Value.okWide Try.prog W .any base t v := hval0
  have hW' := hW
  obtain ⟨p, q, hA0, hV, rfl, hfz, hnd⟩ := hW
  have hA : DataW.TrodAll enc Try.prog W 0 (fun _ => true) true Try.f8.params.toList args.toList ds p := hA0
  rw [Try.params8] at hA hval
  obtain ⟨v0, vs0, d0, ds0, p0, q0, hargs, rfl, rfl, h0, tr0⟩ := trodAll_cons hA
  obtain ⟨rfl, rfl, rfl⟩ := trodAll_nil tr0
  obtain rfl : args = #[v0] := by cases args; simp_all
  obtain ⟨rfl, rfl⟩ := trodVars_none hV
  have k0 := h0
  have lt0 : ∀ x ∈ p0, x.block < W.heap.size := by obtain ⟨m, hm⟩ := k0; exact DataW.trod_lt m _ _ _ hm
  obtain ⟨x0, rfl, rfl, rfl, w1⟩ := open_int Try.underlying22 (hval 0 22 v0 rfl rfl) h0
  have hx : 0 ≤ x0 ∧ x0 ≤ 4294967295 := by
    simp [Lit.wf, IntKind.min, IntKind.max, IntKind.signed, IntKind.bits] at w1
    omega
  refine (many.calls x0 W hx.1 hx.2).mono fun e W' ⟨he, bel0⟩ => ?_
  have bel : Below W.heap.size W W' := bel0
  subst he
  exact ⟨_, rfl, _, _, _, [], _, [], hW', trodAll_mk1 (shut_bool Try.underlying4 _), (trodAll_cons_mk (Below.trod laidOut (by kernel_rfl) (of_decide_eq_true (by kernel_rfl)) k0 bel lt0) trodAll_mk0), rfl, bel.frame _, fun h => by cases h⟩
set_option maxRecDepth 100000 in
theorem lifted (os : Os) (started : os.Started) (H : Type) (enc : TypeId × Value → H) :
    ReturnsInHanded {} Try.checked os 8 .any (Rows.encodeManySpec.pre6 enc Try.prog Try.f8 Rows.encodeManyRow.domain false) (Rows.encodeManySpec.post enc Try.prog Try.f8 false true false false) := by
  refine returnsInHanded_of_change_sized (C := Try.checked) own started (by kernel_rfl) Try.func8
    (ChangeSpec.witness6 (enc := enc) (C := Try.checked) false ⟨#[], #[.int .u32 0], []⟩ 16 (by kernel_rfl) (by kernel_rfl) (by kernel_rfl) (by kernel_rfl)) ?_
  intro W base args ds gs before hval hW _ hsz _
  exact contract H enc W base args ds gs before hval hW
theorem over : Rows.encodeManyRow.holds Try.pinned (OpenSpec.ofChange Rows.encodeManySpec) :=
  OpenClaim.holds_of_wide 8 Try.f8 rfl rfl rfl rfl rfl rfl rfl ⟨rfl, rfl, rfl, rfl, rfl⟩ rfl rfl rfl rfl rfl (by kernel_rfl) Try.func8 (by kernel_rfl)
    (of_decide_eq_true (by kernel_rfl)) (by unfold Func.isWrapper; first | (rw [if_pos (by decide +kernel)]; kernel_rfl) | (rw [if_neg (by decide +kernel)]; exact ⟨rfl, rfl⟩))
    (fun os started H enc _ => lifted os started H enc)
theorem proved : Rows.EncodeManySaid := over
end Go.Proofs.Ytkopmkinlanhoaa.encodeMany
namespace Go.Proofs.Ytkopmkinlanhoaa
theorem encodeMany_holds : Rows.EncodeManySaid := encodeMany.proved
end Go.Proofs.Ytkopmkinlanhoaa
