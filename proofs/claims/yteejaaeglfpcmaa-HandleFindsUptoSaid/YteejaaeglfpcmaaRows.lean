/-
  NARROWER THAN 'FOR EVERY INPUT', by the rows' own cells (each row's printed sentence says how): PropOne: loops · PathAll: loops · RegionCounts: loops · HandleFinds: loops · HandleEach: loops · HandleIndex: loops · RegionReg: loops.
  DERIVED. THE GIVEN ROWS OF THIS SEAT. 12 by the template 'for every input the law returns true; each argument reads behind the call as it read before'; 0 by the template 'total and deterministic' (their statements: YteejaaeglfpcmaaTotals.lean).
  GIVEN WITH THE SEED: the statements are not yours to turn. If you find one false, say at which input.
  Laid BY PROGRAM, IN A SANDBOX (cutbox-rows.mjs): the forced cells as the released guide's own fill.sh prints them over the translation 0b94e9f3e4295be4… (all of the seat's roots in one cut). By AI agents, Wed Nov 11 2026. No macro, syntax, notation, axiom, sorry.
-/
import Derived.Test.YteejaaeglfpcmaaChecked
import GoSem.Claim
import GoSem.ClaimJoined
import GoSem.ClaimMapViews
import Derived.JoinedTies
import Derived.KernelRfl
namespace Go.Proofs.Yteejaaeglfpcmaa
/- THE CELL 'sum', in the pinned program and in every row, IS THE sha256 OF THE DUMP (.gsa) THAT YteejaaeglfpcmaaProg.lean LOADS. Nothing in Lean hashes anything: it is a label: what it is worth is what the hold of that sum in a sandbox is worth. -/
noncomputable def Try.pinned : Pinned := { name := "yteejaaeglfpcmaa", sum := "0b94e9f3e4295be476f8c9a6d4e82c5265c54e3e107bc6c0b79afdbe3f3ec38b", checked := Try.checked }
namespace Rows
def none {H : Type} : Left H := { results := [], args := [] }

/-- 'arboretlaw07.PropWide': WHATEVER THE INPUT: true; the input reads as it did. -/
def propWideSpec : ChangeSpec := { name := "propWide", fn := fun _ => fun
  | [d] => { results := [.lit (.bool true)], args := [d] }
  | _ => none }
def propWideRow : OpenClaim := { program := "yteejaaeglfpcmaa", sum := "0b94e9f3e4295be476f8c9a6d4e82c5265c54e3e107bc6c0b79afdbe3f3ec38b", func := "arboret/arboretlaw07.PropWide", spec := "propWide", apart := false }
def PropWideSaid : Prop := propWideRow.holds Try.pinned (OpenSpec.ofChange propWideSpec)

/-- ITS FALSE NEIGHBOUR: 'it returns false'. Refute it at one input. -/
def propWideWrong : ChangeSpec := { name := "propWide", fn := fun _ => fun
  | [d] => { results := [.lit (.bool false)], args := [d] }
  | _ => none }
def PropWideWrongFalsely : Prop := propWideRow.holds Try.pinned (OpenSpec.ofChange propWideWrong)

/-- 'arboretlaw23.ProbeMatch': WHATEVER THE INPUT: true; the input reads as it did. -/
def probeMatchSpec : ChangeSpec := { name := "probeMatch", fn := fun _ => fun
  | [d1, d2] => { results := [.lit (.bool true)], args := [d1, d2] }
  | _ => none }
def probeMatchRow : OpenClaim := { program := "yteejaaeglfpcmaa", sum := "0b94e9f3e4295be476f8c9a6d4e82c5265c54e3e107bc6c0b79afdbe3f3ec38b", func := "arboret/arboretlaw23.ProbeMatch", spec := "probeMatch", apart := false }
def ProbeMatchSaid : Prop := probeMatchRow.holds Try.pinned (OpenSpec.ofChange probeMatchSpec)

/-- ITS FALSE NEIGHBOUR: 'it returns false'. Refute it at one input. -/
def probeMatchWrong : ChangeSpec := { name := "probeMatch", fn := fun _ => fun
  | [d1, d2] => { results := [.lit (.bool false)], args := [d1, d2] }
  | _ => none }
def ProbeMatchWrongFalsely : Prop := probeMatchRow.holds Try.pinned (OpenSpec.ofChange probeMatchWrong)

/-- 'arboretlaw07.PropOne': WHATEVER THE INPUT: true; the input reads as it did. -/
def propOneSpec : ChangeSpec := { name := "propOne", fn := fun _ => fun
  | [d1, d2] => { results := [.lit (.bool true)], args := [d1, d2] }
  | _ => none }
def propOneRow : OpenClaim := { program := "yteejaaeglfpcmaa", sum := "0b94e9f3e4295be476f8c9a6d4e82c5265c54e3e107bc6c0b79afdbe3f3ec38b", func := "arboret/arboretlaw07.PropOne", spec := "propOne", recurses := true, loops := true, apart := false }
def PropOneSaid : Prop := propOneRow.holds Try.pinned (OpenSpec.ofChange propOneSpec)

/-- ITS FALSE NEIGHBOUR: 'it returns false'. Refute it at one input. -/
def propOneWrong : ChangeSpec := { name := "propOne", fn := fun _ => fun
  | [d1, d2] => { results := [.lit (.bool false)], args := [d1, d2] }
  | _ => none }
def PropOneWrongFalsely : Prop := propOneRow.holds Try.pinned (OpenSpec.ofChange propOneWrong)

/-- 'arboretlaw06.PathAll': WHATEVER THE INPUT: true; the input reads as it did. -/
def pathAllSpec : ChangeSpec := { name := "pathAll", fn := fun _ => fun
  | [d] => { results := [.lit (.bool true)], args := [d] }
  | _ => none }
def pathAllRow : OpenClaim := { program := "yteejaaeglfpcmaa", sum := "0b94e9f3e4295be476f8c9a6d4e82c5265c54e3e107bc6c0b79afdbe3f3ec38b", func := "arboret/arboretlaw06.PathAll", spec := "pathAll", recurses := true, loops := true, apart := false }
def PathAllSaid : Prop := pathAllRow.holds Try.pinned (OpenSpec.ofChange pathAllSpec)

/-- ITS FALSE NEIGHBOUR: 'it returns false'. Refute it at one input. -/
def pathAllWrong : ChangeSpec := { name := "pathAll", fn := fun _ => fun
  | [d] => { results := [.lit (.bool false)], args := [d] }
  | _ => none }
def PathAllWrongFalsely : Prop := pathAllRow.holds Try.pinned (OpenSpec.ofChange pathAllWrong)

/-- 'arboretlaw12.RegionCounts': WHATEVER THE INPUT: true; the input reads as it did. -/
def regionCountsSpec : ChangeSpec := { name := "regionCounts", fn := fun _ => fun
  | [d] => { results := [.lit (.bool true)], args := [d] }
  | _ => none }
def regionCountsRow : OpenClaim := { program := "yteejaaeglfpcmaa", sum := "0b94e9f3e4295be476f8c9a6d4e82c5265c54e3e107bc6c0b79afdbe3f3ec38b", func := "arboret/arboretlaw12.RegionCounts", spec := "regionCounts", recurses := true, loops := true, apart := false }
def RegionCountsSaid : Prop := regionCountsRow.holds Try.pinned (OpenSpec.ofChange regionCountsSpec)

/-- ITS FALSE NEIGHBOUR: 'it returns false'. Refute it at one input. -/
def regionCountsWrong : ChangeSpec := { name := "regionCounts", fn := fun _ => fun
  | [d] => { results := [.lit (.bool false)], args := [d] }
  | _ => none }
def RegionCountsWrongFalsely : Prop := regionCountsRow.holds Try.pinned (OpenSpec.ofChange regionCountsWrong)

/-- 'arboretlaw12.RegionInside': WHATEVER THE INPUT: true; the input reads as it did. -/
def regionInsideSpec : ChangeSpec := { name := "regionInside", fn := fun _ => fun
  | [d1, d2, d3, d4] => { results := [.lit (.bool true)], args := [d1, d2, d3, d4] }
  | _ => none }
def regionInsideRow : OpenClaim := { program := "yteejaaeglfpcmaa", sum := "0b94e9f3e4295be476f8c9a6d4e82c5265c54e3e107bc6c0b79afdbe3f3ec38b", func := "arboret/arboretlaw12.RegionInside", spec := "regionInside", apart := false }
def RegionInsideSaid : Prop := regionInsideRow.holds Try.pinned (OpenSpec.ofChange regionInsideSpec)

/-- ITS FALSE NEIGHBOUR: 'it returns false'. Refute it at one input. -/
def regionInsideWrong : ChangeSpec := { name := "regionInside", fn := fun _ => fun
  | [d1, d2, d3, d4] => { results := [.lit (.bool false)], args := [d1, d2, d3, d4] }
  | _ => none }
def RegionInsideWrongFalsely : Prop := regionInsideRow.holds Try.pinned (OpenSpec.ofChange regionInsideWrong)

/-- 'arboretlaw12.RegionBytes': WHATEVER THE INPUT: true; the input reads as it did. -/
def regionBytesSpec : ChangeSpec := { name := "regionBytes", fn := fun _ => fun
  | [d1, d2, d3, d4, d5] => { results := [.lit (.bool true)], args := [d1, d2, d3, d4, d5] }
  | _ => none }
def regionBytesRow : OpenClaim := { program := "yteejaaeglfpcmaa", sum := "0b94e9f3e4295be476f8c9a6d4e82c5265c54e3e107bc6c0b79afdbe3f3ec38b", func := "arboret/arboretlaw12.RegionBytes", spec := "regionBytes", apart := false }
def RegionBytesSaid : Prop := regionBytesRow.holds Try.pinned (OpenSpec.ofChange regionBytesSpec)

/-- ITS FALSE NEIGHBOUR: 'it returns false'. Refute it at one input. -/
def regionBytesWrong : ChangeSpec := { name := "regionBytes", fn := fun _ => fun
  | [d1, d2, d3, d4, d5] => { results := [.lit (.bool false)], args := [d1, d2, d3, d4, d5] }
  | _ => none }
def RegionBytesWrongFalsely : Prop := regionBytesRow.holds Try.pinned (OpenSpec.ofChange regionBytesWrong)

/-- 'arboretlaw08.HandleFinds': WHATEVER THE INPUT: true; the input reads as it did. -/
def handleFindsSpec : ChangeSpec := { name := "handleFinds", fn := fun _ => fun
  | [d1, d2] => { results := [.lit (.bool true)], args := [d1, d2] }
  | _ => none }
def handleFindsRow : OpenClaim := { program := "yteejaaeglfpcmaa", sum := "0b94e9f3e4295be476f8c9a6d4e82c5265c54e3e107bc6c0b79afdbe3f3ec38b", func := "arboret/arboretlaw08.HandleFinds", spec := "handleFinds", recurses := true, loops := true, apart := false }
def HandleFindsSaid : Prop := handleFindsRow.holds Try.pinned (OpenSpec.ofChange handleFindsSpec)

/-- ITS FALSE NEIGHBOUR: 'it returns false'. Refute it at one input. -/
def handleFindsWrong : ChangeSpec := { name := "handleFinds", fn := fun _ => fun
  | [d1, d2] => { results := [.lit (.bool false)], args := [d1, d2] }
  | _ => none }
def HandleFindsWrongFalsely : Prop := handleFindsRow.holds Try.pinned (OpenSpec.ofChange handleFindsWrong)

/-- 'arboretlaw08.HandleEach': WHATEVER THE INPUT: true; the input reads as it did. -/
def handleEachSpec : ChangeSpec := { name := "handleEach", fn := fun _ => fun
  | [d] => { results := [.lit (.bool true)], args := [d] }
  | _ => none }
def handleEachRow : OpenClaim := { program := "yteejaaeglfpcmaa", sum := "0b94e9f3e4295be476f8c9a6d4e82c5265c54e3e107bc6c0b79afdbe3f3ec38b", func := "arboret/arboretlaw08.HandleEach", spec := "handleEach", recurses := true, loops := true, apart := false }
def HandleEachSaid : Prop := handleEachRow.holds Try.pinned (OpenSpec.ofChange handleEachSpec)

/-- ITS FALSE NEIGHBOUR: 'it returns false'. Refute it at one input. -/
def handleEachWrong : ChangeSpec := { name := "handleEach", fn := fun _ => fun
  | [d] => { results := [.lit (.bool false)], args := [d] }
  | _ => none }
def HandleEachWrongFalsely : Prop := handleEachRow.holds Try.pinned (OpenSpec.ofChange handleEachWrong)

/-- 'arboretlaw08.HandleIndex': WHATEVER THE INPUT: true; the input reads as it did. -/
def handleIndexSpec : ChangeSpec := { name := "handleIndex", fn := fun _ => fun
  | [d] => { results := [.lit (.bool true)], args := [d] }
  | _ => none }
def handleIndexRow : OpenClaim := { program := "yteejaaeglfpcmaa", sum := "0b94e9f3e4295be476f8c9a6d4e82c5265c54e3e107bc6c0b79afdbe3f3ec38b", func := "arboret/arboretlaw08.HandleIndex", spec := "handleIndex", recurses := true, loops := true, apart := false }
def HandleIndexSaid : Prop := handleIndexRow.holds Try.pinned (OpenSpec.ofChange handleIndexSpec)

/-- ITS FALSE NEIGHBOUR: 'it returns false'. Refute it at one input. -/
def handleIndexWrong : ChangeSpec := { name := "handleIndex", fn := fun _ => fun
  | [d] => { results := [.lit (.bool false)], args := [d] }
  | _ => none }
def HandleIndexWrongFalsely : Prop := handleIndexRow.holds Try.pinned (OpenSpec.ofChange handleIndexWrong)

/-- 'arboretlaw12.RegionReg': WHATEVER THE INPUT: true; the input reads as it did. -/
def regionRegSpec : ChangeSpec := { name := "regionReg", fn := fun _ => fun
  | [d1, d2] => { results := [.lit (.bool true)], args := [d1, d2] }
  | _ => none }
def regionRegRow : OpenClaim := { program := "yteejaaeglfpcmaa", sum := "0b94e9f3e4295be476f8c9a6d4e82c5265c54e3e107bc6c0b79afdbe3f3ec38b", func := "arboret/arboretlaw12.RegionReg", spec := "regionReg", recurses := true, loops := true, apart := false }
def RegionRegSaid : Prop := regionRegRow.holds Try.pinned (OpenSpec.ofChange regionRegSpec)

/-- ITS FALSE NEIGHBOUR: 'it returns false'. Refute it at one input. -/
def regionRegWrong : ChangeSpec := { name := "regionReg", fn := fun _ => fun
  | [d1, d2] => { results := [.lit (.bool false)], args := [d1, d2] }
  | _ => none }
def RegionRegWrongFalsely : Prop := regionRegRow.holds Try.pinned (OpenSpec.ofChange regionRegWrong)

/-- 'arboretlaw02.NameKinds': WHATEVER THE INPUT: true; the input reads as it did. -/
def nameKindsSpec : ChangeSpec := { name := "nameKinds", fn := fun _ => fun
  | [d] => { results := [.lit (.bool true)], args := [d] }
  | _ => none }
def nameKindsRow : OpenClaim := { program := "yteejaaeglfpcmaa", sum := "0b94e9f3e4295be476f8c9a6d4e82c5265c54e3e107bc6c0b79afdbe3f3ec38b", func := "arboret/arboretlaw02.NameKinds", spec := "nameKinds", inPlace := ["internal/bytealg.IndexByteString", "internal/bytealg.IndexString"], named := ["internal/bytealg.MaxLen"], apart := false }
def NameKindsSaid : Prop := nameKindsRow.holds Try.pinned (OpenSpec.ofChange nameKindsSpec)

/-- ITS FALSE NEIGHBOUR: 'it returns false'. Refute it at one input. -/
def nameKindsWrong : ChangeSpec := { name := "nameKinds", fn := fun _ => fun
  | [d] => { results := [.lit (.bool false)], args := [d] }
  | _ => none }
def NameKindsWrongFalsely : Prop := nameKindsRow.holds Try.pinned (OpenSpec.ofChange nameKindsWrong)

/- THE SECOND FORM. 'bulk': how many values and letters a reading holds, each counted each time it is reached (what is shared counts as often as it is met; a slice's spare places count too). A statement '..UptoSaid' is the law's where the arguments, and the package variables that the reading takes, are together of bulk at most 1048576: NARROWER than '..Said'. Prove '..Said' where nothing that the law and all that it calls make is longer than what came in: it says more and counts as full. Else prove '..UptoSaid'. A law counts once. -/
mutual
def uptoBulk {H : Type} : DataW H → Nat
  | .lit (.string bytes) => bytes.length + 1
  | .lit _ => 1
  | .nil => 1
  | .ptr d => uptoBulk d + 1
  | .slice elems spare => uptoBulkAll elems + uptoBulkAll spare + 1
  | .agg parts => uptoBulkAll parts + 1
  | .iface _ d => uptoBulk d + 1
  | .map entries => uptoBulkEntries entries + 1
  | .held _ => 1
def uptoBulkAll {H : Type} : List (DataW H) → Nat
  | [] => 0
  | d :: r => uptoBulk d + uptoBulkAll r
def uptoBulkEntries {H : Type} : List (Lit × DataW H) → Nat
  | [] => 0
  | x :: r => uptoBulkEntry x + uptoBulkEntries r
def uptoBulkEntry {H : Type} : Lit × DataW H → Nat
  | (.string bytes, d) => bytes.length + uptoBulk d + 1
  | (_, d) => uptoBulk d + 1
 end
def uptoSmall : (H : Type) → List (DataW H) → Bool := fun _ ds => decide (uptoBulkAll ds ≤ 1048576)
def OpenSpec.upto (s : _root_.Go.ChangeSpec) : _root_.Go.OpenSpec := { _root_.Go.OpenSpec.ofChange s with cond := some uptoSmall }

/-- 'arboretlaw07.PropWide', WHERE WHAT IT READS IS OF BULK AT MOST 1048576: true; the input reads as it did. -/
def propWideUptoRow : OpenClaim := { program := "yteejaaeglfpcmaa", sum := "0b94e9f3e4295be476f8c9a6d4e82c5265c54e3e107bc6c0b79afdbe3f3ec38b", func := "arboret/arboretlaw07.PropWide", spec := "propWide", apart := false, narrowed := true }
def PropWideUptoSaid : Prop := propWideUptoRow.holds Try.pinned (OpenSpec.upto propWideSpec)

/-- 'arboretlaw23.ProbeMatch', WHERE WHAT IT READS IS OF BULK AT MOST 1048576: true; the input reads as it did. -/
def probeMatchUptoRow : OpenClaim := { program := "yteejaaeglfpcmaa", sum := "0b94e9f3e4295be476f8c9a6d4e82c5265c54e3e107bc6c0b79afdbe3f3ec38b", func := "arboret/arboretlaw23.ProbeMatch", spec := "probeMatch", apart := false, narrowed := true }
def ProbeMatchUptoSaid : Prop := probeMatchUptoRow.holds Try.pinned (OpenSpec.upto probeMatchSpec)

/-- 'arboretlaw07.PropOne', WHERE WHAT IT READS IS OF BULK AT MOST 1048576: true; the input reads as it did. -/
def propOneUptoRow : OpenClaim := { program := "yteejaaeglfpcmaa", sum := "0b94e9f3e4295be476f8c9a6d4e82c5265c54e3e107bc6c0b79afdbe3f3ec38b", func := "arboret/arboretlaw07.PropOne", spec := "propOne", recurses := true, loops := true, apart := false, narrowed := true }
def PropOneUptoSaid : Prop := propOneUptoRow.holds Try.pinned (OpenSpec.upto propOneSpec)

/-- 'arboretlaw06.PathAll', WHERE WHAT IT READS IS OF BULK AT MOST 1048576: true; the input reads as it did. -/
def pathAllUptoRow : OpenClaim := { program := "yteejaaeglfpcmaa", sum := "0b94e9f3e4295be476f8c9a6d4e82c5265c54e3e107bc6c0b79afdbe3f3ec38b", func := "arboret/arboretlaw06.PathAll", spec := "pathAll", recurses := true, loops := true, apart := false, narrowed := true }
def PathAllUptoSaid : Prop := pathAllUptoRow.holds Try.pinned (OpenSpec.upto pathAllSpec)

/-- 'arboretlaw12.RegionCounts', WHERE WHAT IT READS IS OF BULK AT MOST 1048576: true; the input reads as it did. -/
def regionCountsUptoRow : OpenClaim := { program := "yteejaaeglfpcmaa", sum := "0b94e9f3e4295be476f8c9a6d4e82c5265c54e3e107bc6c0b79afdbe3f3ec38b", func := "arboret/arboretlaw12.RegionCounts", spec := "regionCounts", recurses := true, loops := true, apart := false, narrowed := true }
def RegionCountsUptoSaid : Prop := regionCountsUptoRow.holds Try.pinned (OpenSpec.upto regionCountsSpec)

/-- 'arboretlaw12.RegionInside', WHERE WHAT IT READS IS OF BULK AT MOST 1048576: true; the input reads as it did. -/
def regionInsideUptoRow : OpenClaim := { program := "yteejaaeglfpcmaa", sum := "0b94e9f3e4295be476f8c9a6d4e82c5265c54e3e107bc6c0b79afdbe3f3ec38b", func := "arboret/arboretlaw12.RegionInside", spec := "regionInside", apart := false, narrowed := true }
def RegionInsideUptoSaid : Prop := regionInsideUptoRow.holds Try.pinned (OpenSpec.upto regionInsideSpec)

/-- 'arboretlaw12.RegionBytes', WHERE WHAT IT READS IS OF BULK AT MOST 1048576: true; the input reads as it did. -/
def regionBytesUptoRow : OpenClaim := { program := "yteejaaeglfpcmaa", sum := "0b94e9f3e4295be476f8c9a6d4e82c5265c54e3e107bc6c0b79afdbe3f3ec38b", func := "arboret/arboretlaw12.RegionBytes", spec := "regionBytes", apart := false, narrowed := true }
def RegionBytesUptoSaid : Prop := regionBytesUptoRow.holds Try.pinned (OpenSpec.upto regionBytesSpec)

/-- 'arboretlaw08.HandleFinds', WHERE WHAT IT READS IS OF BULK AT MOST 1048576: true; the input reads as it did. -/
def handleFindsUptoRow : OpenClaim := { program := "yteejaaeglfpcmaa", sum := "0b94e9f3e4295be476f8c9a6d4e82c5265c54e3e107bc6c0b79afdbe3f3ec38b", func := "arboret/arboretlaw08.HandleFinds", spec := "handleFinds", recurses := true, loops := true, apart := false, narrowed := true }
def HandleFindsUptoSaid : Prop := handleFindsUptoRow.holds Try.pinned (OpenSpec.upto handleFindsSpec)

/-- 'arboretlaw08.HandleEach', WHERE WHAT IT READS IS OF BULK AT MOST 1048576: true; the input reads as it did. -/
def handleEachUptoRow : OpenClaim := { program := "yteejaaeglfpcmaa", sum := "0b94e9f3e4295be476f8c9a6d4e82c5265c54e3e107bc6c0b79afdbe3f3ec38b", func := "arboret/arboretlaw08.HandleEach", spec := "handleEach", recurses := true, loops := true, apart := false, narrowed := true }
def HandleEachUptoSaid : Prop := handleEachUptoRow.holds Try.pinned (OpenSpec.upto handleEachSpec)

/-- 'arboretlaw08.HandleIndex', WHERE WHAT IT READS IS OF BULK AT MOST 1048576: true; the input reads as it did. -/
def handleIndexUptoRow : OpenClaim := { program := "yteejaaeglfpcmaa", sum := "0b94e9f3e4295be476f8c9a6d4e82c5265c54e3e107bc6c0b79afdbe3f3ec38b", func := "arboret/arboretlaw08.HandleIndex", spec := "handleIndex", recurses := true, loops := true, apart := false, narrowed := true }
def HandleIndexUptoSaid : Prop := handleIndexUptoRow.holds Try.pinned (OpenSpec.upto handleIndexSpec)

/-- 'arboretlaw12.RegionReg', WHERE WHAT IT READS IS OF BULK AT MOST 1048576: true; the input reads as it did. -/
def regionRegUptoRow : OpenClaim := { program := "yteejaaeglfpcmaa", sum := "0b94e9f3e4295be476f8c9a6d4e82c5265c54e3e107bc6c0b79afdbe3f3ec38b", func := "arboret/arboretlaw12.RegionReg", spec := "regionReg", recurses := true, loops := true, apart := false, narrowed := true }
def RegionRegUptoSaid : Prop := regionRegUptoRow.holds Try.pinned (OpenSpec.upto regionRegSpec)

/-- 'arboretlaw02.NameKinds', WHERE WHAT IT READS IS OF BULK AT MOST 1048576: true; the input reads as it did. -/
def nameKindsUptoRow : OpenClaim := { program := "yteejaaeglfpcmaa", sum := "0b94e9f3e4295be476f8c9a6d4e82c5265c54e3e107bc6c0b79afdbe3f3ec38b", func := "arboret/arboretlaw02.NameKinds", spec := "nameKinds", inPlace := ["internal/bytealg.IndexByteString", "internal/bytealg.IndexString"], named := ["internal/bytealg.MaxLen"], apart := false, narrowed := true }
def NameKindsUptoSaid : Prop := nameKindsUptoRow.holds Try.pinned (OpenSpec.upto nameKindsSpec)

end Rows
end Go.Proofs.Yteejaaeglfpcmaa
