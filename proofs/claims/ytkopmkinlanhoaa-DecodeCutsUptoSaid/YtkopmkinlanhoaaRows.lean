/-
  NARROWER THAN 'FOR EVERY INPUT', by the rows' own cells (each row's printed sentence says how): IrqSelf: loops · DecodeCuts: loops · EncodeBack: loops.
  DERIVED. THE GIVEN ROWS OF THIS SEAT. 6 by the template 'for every input the law returns true; each argument reads behind the call as it read before'; 0 by the template 'total and deterministic' (their statements: YtkopmkinlanhoaaTotals.lean).
  GIVEN WITH THE SEED: the statements are not yours to turn. If you find one false, say at which input.
  Laid BY PROGRAM, IN A SANDBOX (cutbox-rows.mjs): the forced cells as the released guide's own fill.sh prints them over the translation 6a54655c3d02c0ad… (all of the seat's roots in one cut). By AI agents, Wed Nov 11 2026. No macro, syntax, notation, axiom, sorry.
-/
import Derived.Test.YtkopmkinlanhoaaChecked
import GoSem.Claim
import GoSem.ClaimJoined
import GoSem.ClaimMapViews
import Derived.JoinedTies
import Derived.KernelRfl
namespace Go.Proofs.Ytkopmkinlanhoaa
/- THE CELL 'sum', in the pinned program and in every row, IS THE sha256 OF THE DUMP (.gsa) THAT YtkopmkinlanhoaaProg.lean LOADS. Nothing in Lean hashes anything: it is a label: what it is worth is what the hold of that sum in a sandbox is worth. -/
noncomputable def Try.pinned : Pinned := { name := "ytkopmkinlanhoaa", sum := "6a54655c3d02c0add43cd05bf63ec8b7b8ca43553d31ab2ef4eb23b9d9dcfdb5", checked := Try.checked }
namespace Rows
def none {H : Type} : Left H := { results := [], args := [] }

/-- 'arboretlaw14.IrqSelf': WHATEVER THE INPUT: true; the input reads as it did. -/
def irqSelfSpec : ChangeSpec := { name := "irqSelf", fn := fun _ => fun
  | [d1, d2] => { results := [.lit (.bool true)], args := [d1, d2] }
  | _ => none }
def irqSelfRow : OpenClaim := { program := "ytkopmkinlanhoaa", sum := "6a54655c3d02c0add43cd05bf63ec8b7b8ca43553d31ab2ef4eb23b9d9dcfdb5", func := "arboret/arboretlaw14.IrqSelf", spec := "irqSelf", recurses := true, loops := true, apart := false }
def IrqSelfSaid : Prop := irqSelfRow.holds Try.pinned (OpenSpec.ofChange irqSelfSpec)

/-- ITS FALSE NEIGHBOUR: 'it returns false'. Refute it at one input. -/
def irqSelfWrong : ChangeSpec := { name := "irqSelf", fn := fun _ => fun
  | [d1, d2] => { results := [.lit (.bool false)], args := [d1, d2] }
  | _ => none }
def IrqSelfWrongFalsely : Prop := irqSelfRow.holds Try.pinned (OpenSpec.ofChange irqSelfWrong)

/-- 'arboretlaw04.DecodeHeaders': WHATEVER THE INPUT: true; the input reads as it did. -/
def decodeHeadersSpec : ChangeSpec := { name := "decodeHeaders", fn := fun _ => fun
  | [d1, d2] => { results := [.lit (.bool true)], args := [d1, d2] }
  | _ => none }
def decodeHeadersRow : OpenClaim := { program := "ytkopmkinlanhoaa", sum := "6a54655c3d02c0add43cd05bf63ec8b7b8ca43553d31ab2ef4eb23b9d9dcfdb5", func := "arboret/arboretlaw04.DecodeHeaders", spec := "decodeHeaders", inPlace := ["internal/bytealg.IndexByte", "internal/bytealg.Count", "internal/bytealg.Index", "internal/bytealg.IndexByteString", "internal/bytealg.IndexString"], recurses := true, named := ["internal/bytealg.MaxLen"], apart := false }
def DecodeHeadersSaid : Prop := decodeHeadersRow.holds Try.pinned (OpenSpec.ofChange decodeHeadersSpec)

/-- ITS FALSE NEIGHBOUR: 'it returns false'. Refute it at one input. -/
def decodeHeadersWrong : ChangeSpec := { name := "decodeHeaders", fn := fun _ => fun
  | [d1, d2] => { results := [.lit (.bool false)], args := [d1, d2] }
  | _ => none }
def DecodeHeadersWrongFalsely : Prop := decodeHeadersRow.holds Try.pinned (OpenSpec.ofChange decodeHeadersWrong)

/-- 'arboretlaw04.DecodeCuts': WHATEVER THE INPUT: true; the input reads as it did. -/
def decodeCutsSpec : ChangeSpec := { name := "decodeCuts", fn := fun _ => fun
  | [d1, d2, d3] => { results := [.lit (.bool true)], args := [d1, d2, d3] }
  | _ => none }
def decodeCutsRow : OpenClaim := { program := "ytkopmkinlanhoaa", sum := "6a54655c3d02c0add43cd05bf63ec8b7b8ca43553d31ab2ef4eb23b9d9dcfdb5", func := "arboret/arboretlaw04.DecodeCuts", spec := "decodeCuts", inPlace := ["internal/bytealg.IndexByte", "internal/bytealg.Count", "internal/bytealg.Index", "internal/bytealg.IndexByteString", "internal/bytealg.IndexString"], recurses := true, named := ["internal/bytealg.MaxLen"], loops := true, apart := false }
def DecodeCutsSaid : Prop := decodeCutsRow.holds Try.pinned (OpenSpec.ofChange decodeCutsSpec)

/-- ITS FALSE NEIGHBOUR: 'it returns false'. Refute it at one input. -/
def decodeCutsWrong : ChangeSpec := { name := "decodeCuts", fn := fun _ => fun
  | [d1, d2, d3] => { results := [.lit (.bool false)], args := [d1, d2, d3] }
  | _ => none }
def DecodeCutsWrongFalsely : Prop := decodeCutsRow.holds Try.pinned (OpenSpec.ofChange decodeCutsWrong)

/-- 'arboretlaw05.EncodeBack': WHATEVER THE INPUT: true; the input reads as it did. -/
def encodeBackSpec : ChangeSpec := { name := "encodeBack", fn := fun _ => fun
  | [d] => { results := [.lit (.bool true)], args := [d] }
  | _ => none }
def encodeBackRow : OpenClaim := { program := "ytkopmkinlanhoaa", sum := "6a54655c3d02c0add43cd05bf63ec8b7b8ca43553d31ab2ef4eb23b9d9dcfdb5", func := "arboret/arboretlaw05.EncodeBack", spec := "encodeBack", inPlace := ["internal/bytealg.IndexByteString", "internal/bytealg.IndexString", "internal/bytealg.IndexByte", "internal/bytealg.Count", "internal/bytealg.Index"], unfollowed := true, recurses := true, named := ["internal/bytealg.MaxLen"], loops := true, apart := false }
def EncodeBackSaid : Prop := encodeBackRow.holds Try.pinned (OpenSpec.ofChange encodeBackSpec)

/-- ITS FALSE NEIGHBOUR: 'it returns false'. Refute it at one input. -/
def encodeBackWrong : ChangeSpec := { name := "encodeBack", fn := fun _ => fun
  | [d] => { results := [.lit (.bool false)], args := [d] }
  | _ => none }
def EncodeBackWrongFalsely : Prop := encodeBackRow.holds Try.pinned (OpenSpec.ofChange encodeBackWrong)

/-- 'arboretlaw05.EncodeAgain': WHATEVER THE INPUT: true; the input reads as it did. -/
def encodeAgainSpec : ChangeSpec := { name := "encodeAgain", fn := fun _ => fun
  | [d] => { results := [.lit (.bool true)], args := [d] }
  | _ => none }
def encodeAgainRow : OpenClaim := { program := "ytkopmkinlanhoaa", sum := "6a54655c3d02c0add43cd05bf63ec8b7b8ca43553d31ab2ef4eb23b9d9dcfdb5", func := "arboret/arboretlaw05.EncodeAgain", spec := "encodeAgain", inPlace := ["internal/bytealg.IndexByteString", "internal/bytealg.IndexString", "internal/bytealg.IndexByte", "internal/bytealg.Count", "internal/bytealg.Index"], unfollowed := true, recurses := true, named := ["internal/bytealg.MaxLen"], apart := false }
def EncodeAgainSaid : Prop := encodeAgainRow.holds Try.pinned (OpenSpec.ofChange encodeAgainSpec)

/-- ITS FALSE NEIGHBOUR: 'it returns false'. Refute it at one input. -/
def encodeAgainWrong : ChangeSpec := { name := "encodeAgain", fn := fun _ => fun
  | [d] => { results := [.lit (.bool false)], args := [d] }
  | _ => none }
def EncodeAgainWrongFalsely : Prop := encodeAgainRow.holds Try.pinned (OpenSpec.ofChange encodeAgainWrong)

/-- 'arboretlaw05.EncodeMany': WHATEVER THE INPUT: true; the input reads as it did. -/
def encodeManySpec : ChangeSpec := { name := "encodeMany", fn := fun _ => fun
  | [d] => { results := [.lit (.bool true)], args := [d] }
  | _ => none }
def encodeManyRow : OpenClaim := { program := "ytkopmkinlanhoaa", sum := "6a54655c3d02c0add43cd05bf63ec8b7b8ca43553d31ab2ef4eb23b9d9dcfdb5", func := "arboret/arboretlaw05.EncodeMany", spec := "encodeMany", inPlace := ["internal/bytealg.IndexByteString", "internal/bytealg.IndexString", "internal/bytealg.IndexByte", "internal/bytealg.Count", "internal/bytealg.Index"], unfollowed := true, recurses := true, named := ["internal/bytealg.MaxLen"], apart := false }
def EncodeManySaid : Prop := encodeManyRow.holds Try.pinned (OpenSpec.ofChange encodeManySpec)

/-- ITS FALSE NEIGHBOUR: 'it returns false'. Refute it at one input. -/
def encodeManyWrong : ChangeSpec := { name := "encodeMany", fn := fun _ => fun
  | [d] => { results := [.lit (.bool false)], args := [d] }
  | _ => none }
def EncodeManyWrongFalsely : Prop := encodeManyRow.holds Try.pinned (OpenSpec.ofChange encodeManyWrong)

/- THE SECOND FORM. 'bulk': how many values and letters a reading holds, each counted each time it is reached (what is shared counts as often as it is met; a slice's spare places count too). A statement '..UptoSaid' is the law's where the arguments, and the package variables that the reading takes, are together of bulk at most 1048576: NARROWER than '..Said'. Prove '..Said' where nothing that the law and all that it calls make is longer than what came in: it says more and counts as full. Else prove '..UptoSaid'. A law counts once. -/
mutual
def uptoBulk {H : Type} : DataW H → Nat
  | .lit (.string bytes) => bytes.length + 1
  | .lit _ => 1
  | .nil => 1
  | .ptr d => uptoBulk d + 1
  | .slice elems spare => uptoBulkAll elems + uptoBulkAll spare + 1
  | .agg parts => uptoBulkAll parts + 1
  | .iface _ d => uptoBulk d + 1
  | .map entries => uptoBulkEntries entries + 1
  | .held _ => 1
def uptoBulkAll {H : Type} : List (DataW H) → Nat
  | [] => 0
  | d :: r => uptoBulk d + uptoBulkAll r
def uptoBulkEntries {H : Type} : List (Lit × DataW H) → Nat
  | [] => 0
  | x :: r => uptoBulkEntry x + uptoBulkEntries r
def uptoBulkEntry {H : Type} : Lit × DataW H → Nat
  | (.string bytes, d) => bytes.length + uptoBulk d + 1
  | (_, d) => uptoBulk d + 1
 end
def uptoSmall : (H : Type) → List (DataW H) → Bool := fun _ ds => decide (uptoBulkAll ds ≤ 1048576)
def OpenSpec.upto (s : _root_.Go.ChangeSpec) : _root_.Go.OpenSpec := { _root_.Go.OpenSpec.ofChange s with cond := some uptoSmall }

/-- 'arboretlaw14.IrqSelf', WHERE WHAT IT READS IS OF BULK AT MOST 1048576: true; the input reads as it did. -/
def irqSelfUptoRow : OpenClaim := { program := "ytkopmkinlanhoaa", sum := "6a54655c3d02c0add43cd05bf63ec8b7b8ca43553d31ab2ef4eb23b9d9dcfdb5", func := "arboret/arboretlaw14.IrqSelf", spec := "irqSelf", recurses := true, loops := true, apart := false, narrowed := true }
def IrqSelfUptoSaid : Prop := irqSelfUptoRow.holds Try.pinned (OpenSpec.upto irqSelfSpec)

/-- 'arboretlaw04.DecodeHeaders', WHERE WHAT IT READS IS OF BULK AT MOST 1048576: true; the input reads as it did. -/
def decodeHeadersUptoRow : OpenClaim := { program := "ytkopmkinlanhoaa", sum := "6a54655c3d02c0add43cd05bf63ec8b7b8ca43553d31ab2ef4eb23b9d9dcfdb5", func := "arboret/arboretlaw04.DecodeHeaders", spec := "decodeHeaders", inPlace := ["internal/bytealg.IndexByte", "internal/bytealg.Count", "internal/bytealg.Index", "internal/bytealg.IndexByteString", "internal/bytealg.IndexString"], recurses := true, named := ["internal/bytealg.MaxLen"], apart := false, narrowed := true }
def DecodeHeadersUptoSaid : Prop := decodeHeadersUptoRow.holds Try.pinned (OpenSpec.upto decodeHeadersSpec)

/-- 'arboretlaw04.DecodeCuts', WHERE WHAT IT READS IS OF BULK AT MOST 1048576: true; the input reads as it did. -/
def decodeCutsUptoRow : OpenClaim := { program := "ytkopmkinlanhoaa", sum := "6a54655c3d02c0add43cd05bf63ec8b7b8ca43553d31ab2ef4eb23b9d9dcfdb5", func := "arboret/arboretlaw04.DecodeCuts", spec := "decodeCuts", inPlace := ["internal/bytealg.IndexByte", "internal/bytealg.Count", "internal/bytealg.Index", "internal/bytealg.IndexByteString", "internal/bytealg.IndexString"], recurses := true, named := ["internal/bytealg.MaxLen"], loops := true, apart := false, narrowed := true }
def DecodeCutsUptoSaid : Prop := decodeCutsUptoRow.holds Try.pinned (OpenSpec.upto decodeCutsSpec)

/-- 'arboretlaw05.EncodeBack', WHERE WHAT IT READS IS OF BULK AT MOST 1048576: true; the input reads as it did. -/
def encodeBackUptoRow : OpenClaim := { program := "ytkopmkinlanhoaa", sum := "6a54655c3d02c0add43cd05bf63ec8b7b8ca43553d31ab2ef4eb23b9d9dcfdb5", func := "arboret/arboretlaw05.EncodeBack", spec := "encodeBack", inPlace := ["internal/bytealg.IndexByteString", "internal/bytealg.IndexString", "internal/bytealg.IndexByte", "internal/bytealg.Count", "internal/bytealg.Index"], unfollowed := true, recurses := true, named := ["internal/bytealg.MaxLen"], loops := true, apart := false, narrowed := true }
def EncodeBackUptoSaid : Prop := encodeBackUptoRow.holds Try.pinned (OpenSpec.upto encodeBackSpec)

/-- 'arboretlaw05.EncodeAgain', WHERE WHAT IT READS IS OF BULK AT MOST 1048576: true; the input reads as it did. -/
def encodeAgainUptoRow : OpenClaim := { program := "ytkopmkinlanhoaa", sum := "6a54655c3d02c0add43cd05bf63ec8b7b8ca43553d31ab2ef4eb23b9d9dcfdb5", func := "arboret/arboretlaw05.EncodeAgain", spec := "encodeAgain", inPlace := ["internal/bytealg.IndexByteString", "internal/bytealg.IndexString", "internal/bytealg.IndexByte", "internal/bytealg.Count", "internal/bytealg.Index"], unfollowed := true, recurses := true, named := ["internal/bytealg.MaxLen"], apart := false, narrowed := true }
def EncodeAgainUptoSaid : Prop := encodeAgainUptoRow.holds Try.pinned (OpenSpec.upto encodeAgainSpec)

/-- 'arboretlaw05.EncodeMany', WHERE WHAT IT READS IS OF BULK AT MOST 1048576: true; the input reads as it did. -/
def encodeManyUptoRow : OpenClaim := { program := "ytkopmkinlanhoaa", sum := "6a54655c3d02c0add43cd05bf63ec8b7b8ca43553d31ab2ef4eb23b9d9dcfdb5", func := "arboret/arboretlaw05.EncodeMany", spec := "encodeMany", inPlace := ["internal/bytealg.IndexByteString", "internal/bytealg.IndexString", "internal/bytealg.IndexByte", "internal/bytealg.Count", "internal/bytealg.Index"], unfollowed := true, recurses := true, named := ["internal/bytealg.MaxLen"], apart := false, narrowed := true }
def EncodeManyUptoSaid : Prop := encodeManyUptoRow.holds Try.pinned (OpenSpec.upto encodeManySpec)

end Rows
end Go.Proofs.Ytkopmkinlanhoaa
