/-
  NARROWER THAN 'FOR EVERY INPUT', by the rows' own cells (each row's printed sentence says how): XlateRanges: loops · XlateUp: loops · XlateParts: loops · XlateWindows: loops · TreeChecks: loops · TreeFinds: loops · TreeEqual: loops.
  DERIVED. THE GIVEN ROWS OF THIS SEAT. 9 by the template 'for every input the law returns true; each argument reads behind the call as it read before'; 0 by the template 'total and deterministic' (their statements: YteejaaeglfpcmabTotals.lean).
  GIVEN WITH THE SEED: the statements are not yours to turn. If you find one false, say at which input.
  Laid BY PROGRAM, IN A SANDBOX (cutbox-rows.mjs): the forced cells as the released guide's own fill.sh prints them over the translation fd6cc9965e239062… (all of the seat's roots in one cut). By AI agents, Wed Nov 11 2026. No macro, syntax, notation, axiom, sorry.
-/
import Derived.Test.YteejaaeglfpcmabChecked
import GoSem.Claim
import GoSem.ClaimJoined
import GoSem.ClaimMapViews
import Derived.JoinedTies
import Derived.KernelRfl
namespace Go.Proofs.Yteejaaeglfpcmab
/- THE CELL 'sum', in the pinned program and in every row, IS THE sha256 OF THE DUMP (.gsa) THAT YteejaaeglfpcmabProg.lean LOADS. Nothing in Lean hashes anything: it is a label: what it is worth is what the hold of that sum in a sandbox is worth. -/
noncomputable def Try.pinned : Pinned := { name := "yteejaaeglfpcmab", sum := "fd6cc9965e2390620681128d442f76c98503503efe4b40cd8d8852a8252aacaa", checked := Try.checked }
namespace Rows
def none {H : Type} : Left H := { results := [], args := [] }

/-- 'arboretlaw02.NameSplits': WHATEVER THE INPUT: true; the input reads as it did. -/
def nameSplitsSpec : ChangeSpec := { name := "nameSplits", fn := fun _ => fun
  | [d] => { results := [.lit (.bool true)], args := [d] }
  | _ => none }
def nameSplitsRow : OpenClaim := { program := "yteejaaeglfpcmab", sum := "fd6cc9965e2390620681128d442f76c98503503efe4b40cd8d8852a8252aacaa", func := "arboret/arboretlaw02.NameSplits", spec := "nameSplits", inPlace := ["internal/bytealg.IndexByteString", "internal/bytealg.IndexString"], named := ["internal/bytealg.MaxLen"], apart := false }
def NameSplitsSaid : Prop := nameSplitsRow.holds Try.pinned (OpenSpec.ofChange nameSplitsSpec)

/-- ITS FALSE NEIGHBOUR: 'it returns false'. Refute it at one input. -/
def nameSplitsWrong : ChangeSpec := { name := "nameSplits", fn := fun _ => fun
  | [d] => { results := [.lit (.bool false)], args := [d] }
  | _ => none }
def NameSplitsWrongFalsely : Prop := nameSplitsRow.holds Try.pinned (OpenSpec.ofChange nameSplitsWrong)

/-- 'arboretlaw13.XlateRanges': WHATEVER THE INPUT: true; the input reads as it did. -/
def xlateRangesSpec : ChangeSpec := { name := "xlateRanges", fn := fun _ => fun
  | [d1, d2] => { results := [.lit (.bool true)], args := [d1, d2] }
  | _ => none }
def xlateRangesRow : OpenClaim := { program := "yteejaaeglfpcmab", sum := "fd6cc9965e2390620681128d442f76c98503503efe4b40cd8d8852a8252aacaa", func := "arboret/arboretlaw13.XlateRanges", spec := "xlateRanges", recurses := true, loops := true, apart := false }
def XlateRangesSaid : Prop := xlateRangesRow.holds Try.pinned (OpenSpec.ofChange xlateRangesSpec)

/-- ITS FALSE NEIGHBOUR: 'it returns false'. Refute it at one input. -/
def xlateRangesWrong : ChangeSpec := { name := "xlateRanges", fn := fun _ => fun
  | [d1, d2] => { results := [.lit (.bool false)], args := [d1, d2] }
  | _ => none }
def XlateRangesWrongFalsely : Prop := xlateRangesRow.holds Try.pinned (OpenSpec.ofChange xlateRangesWrong)

/-- 'arboretlaw13.XlateUp': WHATEVER THE INPUT: true; the input reads as it did. -/
def xlateUpSpec : ChangeSpec := { name := "xlateUp", fn := fun _ => fun
  | [d1, d2, d3, d4] => { results := [.lit (.bool true)], args := [d1, d2, d3, d4] }
  | _ => none }
def xlateUpRow : OpenClaim := { program := "yteejaaeglfpcmab", sum := "fd6cc9965e2390620681128d442f76c98503503efe4b40cd8d8852a8252aacaa", func := "arboret/arboretlaw13.XlateUp", spec := "xlateUp", recurses := true, loops := true, apart := false }
def XlateUpSaid : Prop := xlateUpRow.holds Try.pinned (OpenSpec.ofChange xlateUpSpec)

/-- ITS FALSE NEIGHBOUR: 'it returns false'. Refute it at one input. -/
def xlateUpWrong : ChangeSpec := { name := "xlateUp", fn := fun _ => fun
  | [d1, d2, d3, d4] => { results := [.lit (.bool false)], args := [d1, d2, d3, d4] }
  | _ => none }
def XlateUpWrongFalsely : Prop := xlateUpRow.holds Try.pinned (OpenSpec.ofChange xlateUpWrong)

/-- 'arboretlaw13.XlateParts': WHATEVER THE INPUT: true; the input reads as it did. -/
def xlatePartsSpec : ChangeSpec := { name := "xlateParts", fn := fun _ => fun
  | [d1, d2, d3, d4, d5] => { results := [.lit (.bool true)], args := [d1, d2, d3, d4, d5] }
  | _ => none }
def xlatePartsRow : OpenClaim := { program := "yteejaaeglfpcmab", sum := "fd6cc9965e2390620681128d442f76c98503503efe4b40cd8d8852a8252aacaa", func := "arboret/arboretlaw13.XlateParts", spec := "xlateParts", recurses := true, loops := true, apart := false }
def XlatePartsSaid : Prop := xlatePartsRow.holds Try.pinned (OpenSpec.ofChange xlatePartsSpec)

/-- ITS FALSE NEIGHBOUR: 'it returns false'. Refute it at one input. -/
def xlatePartsWrong : ChangeSpec := { name := "xlateParts", fn := fun _ => fun
  | [d1, d2, d3, d4, d5] => { results := [.lit (.bool false)], args := [d1, d2, d3, d4, d5] }
  | _ => none }
def XlatePartsWrongFalsely : Prop := xlatePartsRow.holds Try.pinned (OpenSpec.ofChange xlatePartsWrong)

/-- 'arboretlaw13.XlateWindows': WHATEVER THE INPUT: true; the input reads as it did. -/
def xlateWindowsSpec : ChangeSpec := { name := "xlateWindows", fn := fun _ => fun
  | [d1, d2] => { results := [.lit (.bool true)], args := [d1, d2] }
  | _ => none }
def xlateWindowsRow : OpenClaim := { program := "yteejaaeglfpcmab", sum := "fd6cc9965e2390620681128d442f76c98503503efe4b40cd8d8852a8252aacaa", func := "arboret/arboretlaw13.XlateWindows", spec := "xlateWindows", recurses := true, loops := true, apart := false }
def XlateWindowsSaid : Prop := xlateWindowsRow.holds Try.pinned (OpenSpec.ofChange xlateWindowsSpec)

/-- ITS FALSE NEIGHBOUR: 'it returns false'. Refute it at one input. -/
def xlateWindowsWrong : ChangeSpec := { name := "xlateWindows", fn := fun _ => fun
  | [d1, d2] => { results := [.lit (.bool false)], args := [d1, d2] }
  | _ => none }
def XlateWindowsWrongFalsely : Prop := xlateWindowsRow.holds Try.pinned (OpenSpec.ofChange xlateWindowsWrong)

/-- 'arboretlaw03.TreeChecks': WHATEVER THE INPUT: true; the input reads as it did. -/
def treeChecksSpec : ChangeSpec := { name := "treeChecks", fn := fun _ => fun
  | [d] => { results := [.lit (.bool true)], args := [d] }
  | _ => none }
def treeChecksRow : OpenClaim := { program := "yteejaaeglfpcmab", sum := "fd6cc9965e2390620681128d442f76c98503503efe4b40cd8d8852a8252aacaa", func := "arboret/arboretlaw03.TreeChecks", spec := "treeChecks", inPlace := ["internal/bytealg.IndexByteString", "internal/bytealg.IndexString"], unfollowed := true, recurses := true, named := ["internal/bytealg.MaxLen"], loops := true, apart := false }
def TreeChecksSaid : Prop := treeChecksRow.holds Try.pinned (OpenSpec.ofChange treeChecksSpec)

/-- ITS FALSE NEIGHBOUR: 'it returns false'. Refute it at one input. -/
def treeChecksWrong : ChangeSpec := { name := "treeChecks", fn := fun _ => fun
  | [d] => { results := [.lit (.bool false)], args := [d] }
  | _ => none }
def TreeChecksWrongFalsely : Prop := treeChecksRow.holds Try.pinned (OpenSpec.ofChange treeChecksWrong)

/-- 'arboretlaw03.TreeDeep': WHATEVER THE INPUT: true; the input reads as it did. -/
def treeDeepSpec : ChangeSpec := { name := "treeDeep", fn := fun _ => fun
  | [d] => { results := [.lit (.bool true)], args := [d] }
  | _ => none }
def treeDeepRow : OpenClaim := { program := "yteejaaeglfpcmab", sum := "fd6cc9965e2390620681128d442f76c98503503efe4b40cd8d8852a8252aacaa", func := "arboret/arboretlaw03.TreeDeep", spec := "treeDeep", inPlace := ["internal/bytealg.IndexByteString", "internal/bytealg.IndexString"], unfollowed := true, recurses := true, named := ["internal/bytealg.MaxLen"], apart := false }
def TreeDeepSaid : Prop := treeDeepRow.holds Try.pinned (OpenSpec.ofChange treeDeepSpec)

/-- ITS FALSE NEIGHBOUR: 'it returns false'. Refute it at one input. -/
def treeDeepWrong : ChangeSpec := { name := "treeDeep", fn := fun _ => fun
  | [d] => { results := [.lit (.bool false)], args := [d] }
  | _ => none }
def TreeDeepWrongFalsely : Prop := treeDeepRow.holds Try.pinned (OpenSpec.ofChange treeDeepWrong)

/-- 'arboretlaw03.TreeFinds': WHATEVER THE INPUT: true; the input reads as it did. -/
def treeFindsSpec : ChangeSpec := { name := "treeFinds", fn := fun _ => fun
  | [d1, d2] => { results := [.lit (.bool true)], args := [d1, d2] }
  | _ => none }
def treeFindsRow : OpenClaim := { program := "yteejaaeglfpcmab", sum := "fd6cc9965e2390620681128d442f76c98503503efe4b40cd8d8852a8252aacaa", func := "arboret/arboretlaw03.TreeFinds", spec := "treeFinds", inPlace := ["internal/bytealg.IndexByteString", "internal/bytealg.IndexString"], unfollowed := true, recurses := true, named := ["internal/bytealg.MaxLen"], loops := true, apart := false }
def TreeFindsSaid : Prop := treeFindsRow.holds Try.pinned (OpenSpec.ofChange treeFindsSpec)

/-- ITS FALSE NEIGHBOUR: 'it returns false'. Refute it at one input. -/
def treeFindsWrong : ChangeSpec := { name := "treeFinds", fn := fun _ => fun
  | [d1, d2] => { results := [.lit (.bool false)], args := [d1, d2] }
  | _ => none }
def TreeFindsWrongFalsely : Prop := treeFindsRow.holds Try.pinned (OpenSpec.ofChange treeFindsWrong)

/-- 'arboretlaw03.TreeEqual': WHATEVER THE INPUT: true; the input reads as it did. -/
def treeEqualSpec : ChangeSpec := { name := "treeEqual", fn := fun _ => fun
  | [d1, d2, d3] => { results := [.lit (.bool true)], args := [d1, d2, d3] }
  | _ => none }
def treeEqualRow : OpenClaim := { program := "yteejaaeglfpcmab", sum := "fd6cc9965e2390620681128d442f76c98503503efe4b40cd8d8852a8252aacaa", func := "arboret/arboretlaw03.TreeEqual", spec := "treeEqual", inPlace := ["internal/bytealg.IndexByteString", "internal/bytealg.IndexString"], unfollowed := true, recurses := true, named := ["internal/bytealg.MaxLen"], loops := true, apart := false }
def TreeEqualSaid : Prop := treeEqualRow.holds Try.pinned (OpenSpec.ofChange treeEqualSpec)

/-- ITS FALSE NEIGHBOUR: 'it returns false'. Refute it at one input. -/
def treeEqualWrong : ChangeSpec := { name := "treeEqual", fn := fun _ => fun
  | [d1, d2, d3] => { results := [.lit (.bool false)], args := [d1, d2, d3] }
  | _ => none }
def TreeEqualWrongFalsely : Prop := treeEqualRow.holds Try.pinned (OpenSpec.ofChange treeEqualWrong)

/- THE SECOND FORM. 'bulk': how many values and letters a reading holds, each counted each time it is reached (what is shared counts as often as it is met; a slice's spare places count too). A statement '..UptoSaid' is the law's where the arguments, and the package variables that the reading takes, are together of bulk at most 1048576: NARROWER than '..Said'. Prove '..Said' where nothing that the law and all that it calls make is longer than what came in: it says more and counts as full. Else prove '..UptoSaid'. A law counts once. -/
mutual
def uptoBulk {H : Type} : DataW H → Nat
  | .lit (.string bytes) => bytes.length + 1
  | .lit _ => 1
  | .nil => 1
  | .ptr d => uptoBulk d + 1
  | .slice elems spare => uptoBulkAll elems + uptoBulkAll spare + 1
  | .agg parts => uptoBulkAll parts + 1
  | .iface _ d => uptoBulk d + 1
  | .map entries => uptoBulkEntries entries + 1
  | .held _ => 1
def uptoBulkAll {H : Type} : List (DataW H) → Nat
  | [] => 0
  | d :: r => uptoBulk d + uptoBulkAll r
def uptoBulkEntries {H : Type} : List (Lit × DataW H) → Nat
  | [] => 0
  | x :: r => uptoBulkEntry x + uptoBulkEntries r
def uptoBulkEntry {H : Type} : Lit × DataW H → Nat
  | (.string bytes, d) => bytes.length + uptoBulk d + 1
  | (_, d) => uptoBulk d + 1
 end
def uptoSmall : (H : Type) → List (DataW H) → Bool := fun _ ds => decide (uptoBulkAll ds ≤ 1048576)
def OpenSpec.upto (s : _root_.Go.ChangeSpec) : _root_.Go.OpenSpec := { _root_.Go.OpenSpec.ofChange s with cond := some uptoSmall }

/-- 'arboretlaw02.NameSplits', WHERE WHAT IT READS IS OF BULK AT MOST 1048576: true; the input reads as it did. -/
def nameSplitsUptoRow : OpenClaim := { program := "yteejaaeglfpcmab", sum := "fd6cc9965e2390620681128d442f76c98503503efe4b40cd8d8852a8252aacaa", func := "arboret/arboretlaw02.NameSplits", spec := "nameSplits", inPlace := ["internal/bytealg.IndexByteString", "internal/bytealg.IndexString"], named := ["internal/bytealg.MaxLen"], apart := false, narrowed := true }
def NameSplitsUptoSaid : Prop := nameSplitsUptoRow.holds Try.pinned (OpenSpec.upto nameSplitsSpec)

/-- 'arboretlaw13.XlateRanges', WHERE WHAT IT READS IS OF BULK AT MOST 1048576: true; the input reads as it did. -/
def xlateRangesUptoRow : OpenClaim := { program := "yteejaaeglfpcmab", sum := "fd6cc9965e2390620681128d442f76c98503503efe4b40cd8d8852a8252aacaa", func := "arboret/arboretlaw13.XlateRanges", spec := "xlateRanges", recurses := true, loops := true, apart := false, narrowed := true }
def XlateRangesUptoSaid : Prop := xlateRangesUptoRow.holds Try.pinned (OpenSpec.upto xlateRangesSpec)

/-- 'arboretlaw13.XlateUp', WHERE WHAT IT READS IS OF BULK AT MOST 1048576: true; the input reads as it did. -/
def xlateUpUptoRow : OpenClaim := { program := "yteejaaeglfpcmab", sum := "fd6cc9965e2390620681128d442f76c98503503efe4b40cd8d8852a8252aacaa", func := "arboret/arboretlaw13.XlateUp", spec := "xlateUp", recurses := true, loops := true, apart := false, narrowed := true }
def XlateUpUptoSaid : Prop := xlateUpUptoRow.holds Try.pinned (OpenSpec.upto xlateUpSpec)

/-- 'arboretlaw13.XlateParts', WHERE WHAT IT READS IS OF BULK AT MOST 1048576: true; the input reads as it did. -/
def xlatePartsUptoRow : OpenClaim := { program := "yteejaaeglfpcmab", sum := "fd6cc9965e2390620681128d442f76c98503503efe4b40cd8d8852a8252aacaa", func := "arboret/arboretlaw13.XlateParts", spec := "xlateParts", recurses := true, loops := true, apart := false, narrowed := true }
def XlatePartsUptoSaid : Prop := xlatePartsUptoRow.holds Try.pinned (OpenSpec.upto xlatePartsSpec)

/-- 'arboretlaw13.XlateWindows', WHERE WHAT IT READS IS OF BULK AT MOST 1048576: true; the input reads as it did. -/
def xlateWindowsUptoRow : OpenClaim := { program := "yteejaaeglfpcmab", sum := "fd6cc9965e2390620681128d442f76c98503503efe4b40cd8d8852a8252aacaa", func := "arboret/arboretlaw13.XlateWindows", spec := "xlateWindows", recurses := true, loops := true, apart := false, narrowed := true }
def XlateWindowsUptoSaid : Prop := xlateWindowsUptoRow.holds Try.pinned (OpenSpec.upto xlateWindowsSpec)

/-- 'arboretlaw03.TreeChecks', WHERE WHAT IT READS IS OF BULK AT MOST 1048576: true; the input reads as it did. -/
def treeChecksUptoRow : OpenClaim := { program := "yteejaaeglfpcmab", sum := "fd6cc9965e2390620681128d442f76c98503503efe4b40cd8d8852a8252aacaa", func := "arboret/arboretlaw03.TreeChecks", spec := "treeChecks", inPlace := ["internal/bytealg.IndexByteString", "internal/bytealg.IndexString"], unfollowed := true, recurses := true, named := ["internal/bytealg.MaxLen"], loops := true, apart := false, narrowed := true }
def TreeChecksUptoSaid : Prop := treeChecksUptoRow.holds Try.pinned (OpenSpec.upto treeChecksSpec)

/-- 'arboretlaw03.TreeDeep', WHERE WHAT IT READS IS OF BULK AT MOST 1048576: true; the input reads as it did. -/
def treeDeepUptoRow : OpenClaim := { program := "yteejaaeglfpcmab", sum := "fd6cc9965e2390620681128d442f76c98503503efe4b40cd8d8852a8252aacaa", func := "arboret/arboretlaw03.TreeDeep", spec := "treeDeep", inPlace := ["internal/bytealg.IndexByteString", "internal/bytealg.IndexString"], unfollowed := true, recurses := true, named := ["internal/bytealg.MaxLen"], apart := false, narrowed := true }
def TreeDeepUptoSaid : Prop := treeDeepUptoRow.holds Try.pinned (OpenSpec.upto treeDeepSpec)

/-- 'arboretlaw03.TreeFinds', WHERE WHAT IT READS IS OF BULK AT MOST 1048576: true; the input reads as it did. -/
def treeFindsUptoRow : OpenClaim := { program := "yteejaaeglfpcmab", sum := "fd6cc9965e2390620681128d442f76c98503503efe4b40cd8d8852a8252aacaa", func := "arboret/arboretlaw03.TreeFinds", spec := "treeFinds", inPlace := ["internal/bytealg.IndexByteString", "internal/bytealg.IndexString"], unfollowed := true, recurses := true, named := ["internal/bytealg.MaxLen"], loops := true, apart := false, narrowed := true }
def TreeFindsUptoSaid : Prop := treeFindsUptoRow.holds Try.pinned (OpenSpec.upto treeFindsSpec)

/-- 'arboretlaw03.TreeEqual', WHERE WHAT IT READS IS OF BULK AT MOST 1048576: true; the input reads as it did. -/
def treeEqualUptoRow : OpenClaim := { program := "yteejaaeglfpcmab", sum := "fd6cc9965e2390620681128d442f76c98503503efe4b40cd8d8852a8252aacaa", func := "arboret/arboretlaw03.TreeEqual", spec := "treeEqual", inPlace := ["internal/bytealg.IndexByteString", "internal/bytealg.IndexString"], unfollowed := true, recurses := true, named := ["internal/bytealg.MaxLen"], loops := true, apart := false, narrowed := true }
def TreeEqualUptoSaid : Prop := treeEqualUptoRow.holds Try.pinned (OpenSpec.upto treeEqualSpec)

end Rows
end Go.Proofs.Yteejaaeglfpcmab
