/-
  No cell of these rows narrows 'for every input' (looked for: loops, veiled, ifaces, maps, wideKeys, modest, calm, conditions, laid).
  DERIVED. THE GIVEN ROWS OF THIS SEAT. 18 by the template 'for every input the law returns true; each argument reads behind the call as it read before'; 0 by the template 'total and deterministic' (their statements: YtlaojndlelcdaaaTotals.lean).
  GIVEN WITH THE SEED: the statements are not yours to turn. If you find one false, say at which input.
  Laid BY PROGRAM, IN A SANDBOX (cutbox-rows.mjs): the forced cells as the released guide's own fill.sh prints them over the translation 0c71650dd890f8e3… (all of the seat's roots in one cut). By AI agents, Wed Nov 11 2026. No macro, syntax, notation, axiom, sorry.
-/
import Derived.Test.YtlaojndlelcdaaaChecked
import GoSem.Claim
import GoSem.ClaimJoined
import GoSem.ClaimMapViews
import Derived.JoinedTies
import Derived.KernelRfl
namespace Go.Proofs.Ytlaojndlelcdaaa
/- THE CELL 'sum', in the pinned program and in every row, IS THE sha256 OF THE DUMP (.gsa) THAT YtlaojndlelcdaaaProg.lean LOADS. Nothing in Lean hashes anything: it is a label: what it is worth is what the hold of that sum in a sandbox is worth. -/
noncomputable def Try.pinned : Pinned := { name := "ytlaojndlelcdaaa", sum := "0c71650dd890f8e3f0d8390774ec37854d0801fdac131562f257ed54be50df21", checked := Try.checked }
namespace Rows
def none {H : Type} : Left H := { results := [], args := [] }

/-- 'tallymanlaw4.NumRow': WHATEVER THE INPUT: true; the input reads as it did. -/
def numRowSpec : ChangeSpec := { name := "numRow", fn := fun _ => fun
  | [d] => { results := [.lit (.bool true)], args := [d] }
  | _ => none }
def numRowRow : OpenClaim := { program := "ytlaojndlelcdaaa", sum := "0c71650dd890f8e3f0d8390774ec37854d0801fdac131562f257ed54be50df21", func := "tallyman/tallymanlaw4.NumRow", spec := "numRow", apart := false }
def NumRowSaid : Prop := numRowRow.holds Try.pinned (OpenSpec.ofChange numRowSpec)

/-- ITS FALSE NEIGHBOUR: 'it returns false'. Refute it at one input. -/
def numRowWrong : ChangeSpec := { name := "numRow", fn := fun _ => fun
  | [d] => { results := [.lit (.bool false)], args := [d] }
  | _ => none }
def NumRowWrongFalsely : Prop := numRowRow.holds Try.pinned (OpenSpec.ofChange numRowWrong)

/-- 'tallymanlaw4.NumFolds': WHATEVER THE INPUT: true; the input reads as it did. -/
def numFoldsSpec : ChangeSpec := { name := "numFolds", fn := fun _ => fun
  | [d1, d2] => { results := [.lit (.bool true)], args := [d1, d2] }
  | _ => none }
def numFoldsRow : OpenClaim := { program := "ytlaojndlelcdaaa", sum := "0c71650dd890f8e3f0d8390774ec37854d0801fdac131562f257ed54be50df21", func := "tallyman/tallymanlaw4.NumFolds", spec := "numFolds", apart := false }
def NumFoldsSaid : Prop := numFoldsRow.holds Try.pinned (OpenSpec.ofChange numFoldsSpec)

/-- ITS FALSE NEIGHBOUR: 'it returns false'. Refute it at one input. -/
def numFoldsWrong : ChangeSpec := { name := "numFolds", fn := fun _ => fun
  | [d1, d2] => { results := [.lit (.bool false)], args := [d1, d2] }
  | _ => none }
def NumFoldsWrongFalsely : Prop := numFoldsRow.holds Try.pinned (OpenSpec.ofChange numFoldsWrong)

/-- 'tallymanlaw4.NumKnown': WHATEVER THE INPUT: true; the input reads as it did. -/
def numKnownSpec : ChangeSpec := { name := "numKnown", fn := fun _ => fun
  | [] => { results := [.lit (.bool true)], args := [] }
  | _ => none }
def numKnownRow : OpenClaim := { program := "ytlaojndlelcdaaa", sum := "0c71650dd890f8e3f0d8390774ec37854d0801fdac131562f257ed54be50df21", func := "tallyman/tallymanlaw4.NumKnown", spec := "numKnown", apart := false }
def NumKnownSaid : Prop := numKnownRow.holds Try.pinned (OpenSpec.ofChange numKnownSpec)

/-- ITS FALSE NEIGHBOUR: 'it returns false'. Refute it at one input. -/
def numKnownWrong : ChangeSpec := { name := "numKnown", fn := fun _ => fun
  | [] => { results := [.lit (.bool false)], args := [] }
  | _ => none }
def NumKnownWrongFalsely : Prop := numKnownRow.holds Try.pinned (OpenSpec.ofChange numKnownWrong)

/-- 'tallymanlaw4.NumSays': WHATEVER THE INPUT: true; the input reads as it did. -/
def numSaysSpec : ChangeSpec := { name := "numSays", fn := fun _ => fun
  | [d1, d2, d3, d4, d5] => { results := [.lit (.bool true)], args := [d1, d2, d3, d4, d5] }
  | _ => none }
def numSaysRow : OpenClaim := { program := "ytlaojndlelcdaaa", sum := "0c71650dd890f8e3f0d8390774ec37854d0801fdac131562f257ed54be50df21", func := "tallyman/tallymanlaw4.NumSays", spec := "numSays", apart := false }
def NumSaysSaid : Prop := numSaysRow.holds Try.pinned (OpenSpec.ofChange numSaysSpec)

/-- ITS FALSE NEIGHBOUR: 'it returns false'. Refute it at one input. -/
def numSaysWrong : ChangeSpec := { name := "numSays", fn := fun _ => fun
  | [d1, d2, d3, d4, d5] => { results := [.lit (.bool false)], args := [d1, d2, d3, d4, d5] }
  | _ => none }
def NumSaysWrongFalsely : Prop := numSaysRow.holds Try.pinned (OpenSpec.ofChange numSaysWrong)

/-- 'tallymanlaw4.NumBack': WHATEVER THE INPUT: true; the input reads as it did. -/
def numBackSpec : ChangeSpec := { name := "numBack", fn := fun _ => fun
  | [d1, d2, d3] => { results := [.lit (.bool true)], args := [d1, d2, d3] }
  | _ => none }
def numBackRow : OpenClaim := { program := "ytlaojndlelcdaaa", sum := "0c71650dd890f8e3f0d8390774ec37854d0801fdac131562f257ed54be50df21", func := "tallyman/tallymanlaw4.NumBack", spec := "numBack", apart := false }
def NumBackSaid : Prop := numBackRow.holds Try.pinned (OpenSpec.ofChange numBackSpec)

/-- ITS FALSE NEIGHBOUR: 'it returns false'. Refute it at one input. -/
def numBackWrong : ChangeSpec := { name := "numBack", fn := fun _ => fun
  | [d1, d2, d3] => { results := [.lit (.bool false)], args := [d1, d2, d3] }
  | _ => none }
def NumBackWrongFalsely : Prop := numBackRow.holds Try.pinned (OpenSpec.ofChange numBackWrong)

/-- 'tallymanlaw3.PolySeals': WHATEVER THE INPUT: true; the input reads as it did. -/
def polySealsSpec : ChangeSpec := { name := "polySeals", fn := fun _ => fun
  | [d] => { results := [.lit (.bool true)], args := [d] }
  | _ => none }
def polySealsRow : OpenClaim := { program := "ytlaojndlelcdaaa", sum := "0c71650dd890f8e3f0d8390774ec37854d0801fdac131562f257ed54be50df21", func := "tallyman/tallymanlaw3.PolySeals", spec := "polySeals", apart := false }
def PolySealsSaid : Prop := polySealsRow.holds Try.pinned (OpenSpec.ofChange polySealsSpec)

/-- ITS FALSE NEIGHBOUR: 'it returns false'. Refute it at one input. -/
def polySealsWrong : ChangeSpec := { name := "polySeals", fn := fun _ => fun
  | [d] => { results := [.lit (.bool false)], args := [d] }
  | _ => none }
def PolySealsWrongFalsely : Prop := polySealsRow.holds Try.pinned (OpenSpec.ofChange polySealsWrong)

/-- 'tallymanlaw21.NetRow': WHATEVER THE INPUT: true; the input reads as it did. -/
def netRowSpec : ChangeSpec := { name := "netRow", fn := fun _ => fun
  | [d1, d2, d3] => { results := [.lit (.bool true)], args := [d1, d2, d3] }
  | _ => none }
def netRowRow : OpenClaim := { program := "ytlaojndlelcdaaa", sum := "0c71650dd890f8e3f0d8390774ec37854d0801fdac131562f257ed54be50df21", func := "tallyman/tallymanlaw21.NetRow", spec := "netRow", apart := false }
def NetRowSaid : Prop := netRowRow.holds Try.pinned (OpenSpec.ofChange netRowSpec)

/-- ITS FALSE NEIGHBOUR: 'it returns false'. Refute it at one input. -/
def netRowWrong : ChangeSpec := { name := "netRow", fn := fun _ => fun
  | [d1, d2, d3] => { results := [.lit (.bool false)], args := [d1, d2, d3] }
  | _ => none }
def NetRowWrongFalsely : Prop := netRowRow.holds Try.pinned (OpenSpec.ofChange netRowWrong)

/-- 'tallymanlaw3.PolyKnown': WHATEVER THE INPUT: true; the input reads as it did. -/
def polyKnownSpec : ChangeSpec := { name := "polyKnown", fn := fun _ => fun
  | [] => { results := [.lit (.bool true)], args := [] }
  | _ => none }
def polyKnownRow : OpenClaim := { program := "ytlaojndlelcdaaa", sum := "0c71650dd890f8e3f0d8390774ec37854d0801fdac131562f257ed54be50df21", func := "tallyman/tallymanlaw3.PolyKnown", spec := "polyKnown", apart := false }
def PolyKnownSaid : Prop := polyKnownRow.holds Try.pinned (OpenSpec.ofChange polyKnownSpec)

/-- ITS FALSE NEIGHBOUR: 'it returns false'. Refute it at one input. -/
def polyKnownWrong : ChangeSpec := { name := "polyKnown", fn := fun _ => fun
  | [] => { results := [.lit (.bool false)], args := [] }
  | _ => none }
def PolyKnownWrongFalsely : Prop := polyKnownRow.holds Try.pinned (OpenSpec.ofChange polyKnownWrong)

/-- 'tallymanlaw21.NetKnown': WHATEVER THE INPUT: true; the input reads as it did. -/
def netKnownSpec : ChangeSpec := { name := "netKnown", fn := fun _ => fun
  | [] => { results := [.lit (.bool true)], args := [] }
  | _ => none }
def netKnownRow : OpenClaim := { program := "ytlaojndlelcdaaa", sum := "0c71650dd890f8e3f0d8390774ec37854d0801fdac131562f257ed54be50df21", func := "tallyman/tallymanlaw21.NetKnown", spec := "netKnown", apart := false }
def NetKnownSaid : Prop := netKnownRow.holds Try.pinned (OpenSpec.ofChange netKnownSpec)

/-- ITS FALSE NEIGHBOUR: 'it returns false'. Refute it at one input. -/
def netKnownWrong : ChangeSpec := { name := "netKnown", fn := fun _ => fun
  | [] => { results := [.lit (.bool false)], args := [] }
  | _ => none }
def NetKnownWrongFalsely : Prop := netKnownRow.holds Try.pinned (OpenSpec.ofChange netKnownWrong)

/-- 'tallymanlaw21.NetPlays': WHATEVER THE INPUT: true; the input reads as it did. -/
def netPlaysSpec : ChangeSpec := { name := "netPlays", fn := fun _ => fun
  | [d] => { results := [.lit (.bool true)], args := [d] }
  | _ => none }
def netPlaysRow : OpenClaim := { program := "ytlaojndlelcdaaa", sum := "0c71650dd890f8e3f0d8390774ec37854d0801fdac131562f257ed54be50df21", func := "tallyman/tallymanlaw21.NetPlays", spec := "netPlays", apart := false }
def NetPlaysSaid : Prop := netPlaysRow.holds Try.pinned (OpenSpec.ofChange netPlaysSpec)

/-- ITS FALSE NEIGHBOUR: 'it returns false'. Refute it at one input. -/
def netPlaysWrong : ChangeSpec := { name := "netPlays", fn := fun _ => fun
  | [d] => { results := [.lit (.bool false)], args := [d] }
  | _ => none }
def NetPlaysWrongFalsely : Prop := netPlaysRow.holds Try.pinned (OpenSpec.ofChange netPlaysWrong)

/-- 'tallymanlaw20.FrameKnown': WHATEVER THE INPUT: true; the input reads as it did. -/
def frameKnownSpec : ChangeSpec := { name := "frameKnown", fn := fun _ => fun
  | [] => { results := [.lit (.bool true)], args := [] }
  | _ => none }
def frameKnownRow : OpenClaim := { program := "ytlaojndlelcdaaa", sum := "0c71650dd890f8e3f0d8390774ec37854d0801fdac131562f257ed54be50df21", func := "tallyman/tallymanlaw20.FrameKnown", spec := "frameKnown", apart := false }
def FrameKnownSaid : Prop := frameKnownRow.holds Try.pinned (OpenSpec.ofChange frameKnownSpec)

/-- ITS FALSE NEIGHBOUR: 'it returns false'. Refute it at one input. -/
def frameKnownWrong : ChangeSpec := { name := "frameKnown", fn := fun _ => fun
  | [] => { results := [.lit (.bool false)], args := [] }
  | _ => none }
def FrameKnownWrongFalsely : Prop := frameKnownRow.holds Try.pinned (OpenSpec.ofChange frameKnownWrong)

/-- 'tallymanlaw20.FrameSays': WHATEVER THE INPUT: true; the input reads as it did. -/
def frameSaysSpec : ChangeSpec := { name := "frameSays", fn := fun _ => fun
  | [d1, d2] => { results := [.lit (.bool true)], args := [d1, d2] }
  | _ => none }
def frameSaysRow : OpenClaim := { program := "ytlaojndlelcdaaa", sum := "0c71650dd890f8e3f0d8390774ec37854d0801fdac131562f257ed54be50df21", func := "tallyman/tallymanlaw20.FrameSays", spec := "frameSays", apart := false }
def FrameSaysSaid : Prop := frameSaysRow.holds Try.pinned (OpenSpec.ofChange frameSaysSpec)

/-- ITS FALSE NEIGHBOUR: 'it returns false'. Refute it at one input. -/
def frameSaysWrong : ChangeSpec := { name := "frameSays", fn := fun _ => fun
  | [d1, d2] => { results := [.lit (.bool false)], args := [d1, d2] }
  | _ => none }
def FrameSaysWrongFalsely : Prop := frameSaysRow.holds Try.pinned (OpenSpec.ofChange frameSaysWrong)

/-- 'tallymanlaw20.FrameApart': WHATEVER THE INPUT: true; the input reads as it did. -/
def frameApartSpec : ChangeSpec := { name := "frameApart", fn := fun _ => fun
  | [d1, d2] => { results := [.lit (.bool true)], args := [d1, d2] }
  | _ => none }
def frameApartRow : OpenClaim := { program := "ytlaojndlelcdaaa", sum := "0c71650dd890f8e3f0d8390774ec37854d0801fdac131562f257ed54be50df21", func := "tallyman/tallymanlaw20.FrameApart", spec := "frameApart", apart := false }
def FrameApartSaid : Prop := frameApartRow.holds Try.pinned (OpenSpec.ofChange frameApartSpec)

/-- ITS FALSE NEIGHBOUR: 'it returns false'. Refute it at one input. -/
def frameApartWrong : ChangeSpec := { name := "frameApart", fn := fun _ => fun
  | [d1, d2] => { results := [.lit (.bool false)], args := [d1, d2] }
  | _ => none }
def FrameApartWrongFalsely : Prop := frameApartRow.holds Try.pinned (OpenSpec.ofChange frameApartWrong)

/-- 'tallymanlaw20.FrameAny': WHATEVER THE INPUT: true; the input reads as it did. -/
def frameAnySpec : ChangeSpec := { name := "frameAny", fn := fun _ => fun
  | [d] => { results := [.lit (.bool true)], args := [d] }
  | _ => none }
def frameAnyRow : OpenClaim := { program := "ytlaojndlelcdaaa", sum := "0c71650dd890f8e3f0d8390774ec37854d0801fdac131562f257ed54be50df21", func := "tallyman/tallymanlaw20.FrameAny", spec := "frameAny", apart := false }
def FrameAnySaid : Prop := frameAnyRow.holds Try.pinned (OpenSpec.ofChange frameAnySpec)

/-- ITS FALSE NEIGHBOUR: 'it returns false'. Refute it at one input. -/
def frameAnyWrong : ChangeSpec := { name := "frameAny", fn := fun _ => fun
  | [d] => { results := [.lit (.bool false)], args := [d] }
  | _ => none }
def FrameAnyWrongFalsely : Prop := frameAnyRow.holds Try.pinned (OpenSpec.ofChange frameAnyWrong)

/-- 'tallymanlaw22.LinkOrder': WHATEVER THE INPUT: true; the input reads as it did. -/
def linkOrderSpec : ChangeSpec := { name := "linkOrder", fn := fun _ => fun
  | [d] => { results := [.lit (.bool true)], args := [d] }
  | _ => none }
def linkOrderRow : OpenClaim := { program := "ytlaojndlelcdaaa", sum := "0c71650dd890f8e3f0d8390774ec37854d0801fdac131562f257ed54be50df21", func := "tallyman/tallymanlaw22.LinkOrder", spec := "linkOrder", apart := false }
def LinkOrderSaid : Prop := linkOrderRow.holds Try.pinned (OpenSpec.ofChange linkOrderSpec)

/-- ITS FALSE NEIGHBOUR: 'it returns false'. Refute it at one input. -/
def linkOrderWrong : ChangeSpec := { name := "linkOrder", fn := fun _ => fun
  | [d] => { results := [.lit (.bool false)], args := [d] }
  | _ => none }
def LinkOrderWrongFalsely : Prop := linkOrderRow.holds Try.pinned (OpenSpec.ofChange linkOrderWrong)

/-- 'tallymanlaw22.LinkKnown': WHATEVER THE INPUT: true; the input reads as it did. -/
def linkKnownSpec : ChangeSpec := { name := "linkKnown", fn := fun _ => fun
  | [] => { results := [.lit (.bool true)], args := [] }
  | _ => none }
def linkKnownRow : OpenClaim := { program := "ytlaojndlelcdaaa", sum := "0c71650dd890f8e3f0d8390774ec37854d0801fdac131562f257ed54be50df21", func := "tallyman/tallymanlaw22.LinkKnown", spec := "linkKnown", apart := false }
def LinkKnownSaid : Prop := linkKnownRow.holds Try.pinned (OpenSpec.ofChange linkKnownSpec)

/-- ITS FALSE NEIGHBOUR: 'it returns false'. Refute it at one input. -/
def linkKnownWrong : ChangeSpec := { name := "linkKnown", fn := fun _ => fun
  | [] => { results := [.lit (.bool false)], args := [] }
  | _ => none }
def LinkKnownWrongFalsely : Prop := linkKnownRow.holds Try.pinned (OpenSpec.ofChange linkKnownWrong)

/-- 'tallymanlaw22.LinkPlays': WHATEVER THE INPUT: true; the input reads as it did. -/
def linkPlaysSpec : ChangeSpec := { name := "linkPlays", fn := fun _ => fun
  | [d] => { results := [.lit (.bool true)], args := [d] }
  | _ => none }
def linkPlaysRow : OpenClaim := { program := "ytlaojndlelcdaaa", sum := "0c71650dd890f8e3f0d8390774ec37854d0801fdac131562f257ed54be50df21", func := "tallyman/tallymanlaw22.LinkPlays", spec := "linkPlays", apart := false }
def LinkPlaysSaid : Prop := linkPlaysRow.holds Try.pinned (OpenSpec.ofChange linkPlaysSpec)

/-- ITS FALSE NEIGHBOUR: 'it returns false'. Refute it at one input. -/
def linkPlaysWrong : ChangeSpec := { name := "linkPlays", fn := fun _ => fun
  | [d] => { results := [.lit (.bool false)], args := [d] }
  | _ => none }
def LinkPlaysWrongFalsely : Prop := linkPlaysRow.holds Try.pinned (OpenSpec.ofChange linkPlaysWrong)

/-- 'tallymanlaw22.LinkTries': WHATEVER THE INPUT: true; the input reads as it did. -/
def linkTriesSpec : ChangeSpec := { name := "linkTries", fn := fun _ => fun
  | [d1, d2] => { results := [.lit (.bool true)], args := [d1, d2] }
  | _ => none }
def linkTriesRow : OpenClaim := { program := "ytlaojndlelcdaaa", sum := "0c71650dd890f8e3f0d8390774ec37854d0801fdac131562f257ed54be50df21", func := "tallyman/tallymanlaw22.LinkTries", spec := "linkTries", apart := false }
def LinkTriesSaid : Prop := linkTriesRow.holds Try.pinned (OpenSpec.ofChange linkTriesSpec)

/-- ITS FALSE NEIGHBOUR: 'it returns false'. Refute it at one input. -/
def linkTriesWrong : ChangeSpec := { name := "linkTries", fn := fun _ => fun
  | [d1, d2] => { results := [.lit (.bool false)], args := [d1, d2] }
  | _ => none }
def LinkTriesWrongFalsely : Prop := linkTriesRow.holds Try.pinned (OpenSpec.ofChange linkTriesWrong)

/- THE SECOND FORM. 'bulk': how many values and letters a reading holds, each counted each time it is reached (what is shared counts as often as it is met; a slice's spare places count too). A statement '..UptoSaid' is the law's where the arguments, and the package variables that the reading takes, are together of bulk at most 1048576: NARROWER than '..Said'. Prove '..Said' where nothing that the law and all that it calls make is longer than what came in: it says more and counts as full. Else prove '..UptoSaid'. A law counts once. -/
mutual
def uptoBulk {H : Type} : DataW H → Nat
  | .lit (.string bytes) => bytes.length + 1
  | .lit _ => 1
  | .nil => 1
  | .ptr d => uptoBulk d + 1
  | .slice elems spare => uptoBulkAll elems + uptoBulkAll spare + 1
  | .agg parts => uptoBulkAll parts + 1
  | .iface _ d => uptoBulk d + 1
  | .map entries => uptoBulkEntries entries + 1
  | .held _ => 1
def uptoBulkAll {H : Type} : List (DataW H) → Nat
  | [] => 0
  | d :: r => uptoBulk d + uptoBulkAll r
def uptoBulkEntries {H : Type} : List (Lit × DataW H) → Nat
  | [] => 0
  | x :: r => uptoBulkEntry x + uptoBulkEntries r
def uptoBulkEntry {H : Type} : Lit × DataW H → Nat
  | (.string bytes, d) => bytes.length + uptoBulk d + 1
  | (_, d) => uptoBulk d + 1
 end
def uptoSmall : (H : Type) → List (DataW H) → Bool := fun _ ds => decide (uptoBulkAll ds ≤ 1048576)
def OpenSpec.upto (s : _root_.Go.ChangeSpec) : _root_.Go.OpenSpec := { _root_.Go.OpenSpec.ofChange s with cond := some uptoSmall }

/-- 'tallymanlaw4.NumRow', WHERE WHAT IT READS IS OF BULK AT MOST 1048576: true; the input reads as it did. -/
def numRowUptoRow : OpenClaim := { program := "ytlaojndlelcdaaa", sum := "0c71650dd890f8e3f0d8390774ec37854d0801fdac131562f257ed54be50df21", func := "tallyman/tallymanlaw4.NumRow", spec := "numRow", apart := false, narrowed := true }
def NumRowUptoSaid : Prop := numRowUptoRow.holds Try.pinned (OpenSpec.upto numRowSpec)

/-- 'tallymanlaw4.NumFolds', WHERE WHAT IT READS IS OF BULK AT MOST 1048576: true; the input reads as it did. -/
def numFoldsUptoRow : OpenClaim := { program := "ytlaojndlelcdaaa", sum := "0c71650dd890f8e3f0d8390774ec37854d0801fdac131562f257ed54be50df21", func := "tallyman/tallymanlaw4.NumFolds", spec := "numFolds", apart := false, narrowed := true }
def NumFoldsUptoSaid : Prop := numFoldsUptoRow.holds Try.pinned (OpenSpec.upto numFoldsSpec)

/-- 'tallymanlaw4.NumKnown', WHERE WHAT IT READS IS OF BULK AT MOST 1048576: true; the input reads as it did. -/
def numKnownUptoRow : OpenClaim := { program := "ytlaojndlelcdaaa", sum := "0c71650dd890f8e3f0d8390774ec37854d0801fdac131562f257ed54be50df21", func := "tallyman/tallymanlaw4.NumKnown", spec := "numKnown", apart := false, narrowed := true }
def NumKnownUptoSaid : Prop := numKnownUptoRow.holds Try.pinned (OpenSpec.upto numKnownSpec)

/-- 'tallymanlaw4.NumSays', WHERE WHAT IT READS IS OF BULK AT MOST 1048576: true; the input reads as it did. -/
def numSaysUptoRow : OpenClaim := { program := "ytlaojndlelcdaaa", sum := "0c71650dd890f8e3f0d8390774ec37854d0801fdac131562f257ed54be50df21", func := "tallyman/tallymanlaw4.NumSays", spec := "numSays", apart := false, narrowed := true }
def NumSaysUptoSaid : Prop := numSaysUptoRow.holds Try.pinned (OpenSpec.upto numSaysSpec)

/-- 'tallymanlaw4.NumBack', WHERE WHAT IT READS IS OF BULK AT MOST 1048576: true; the input reads as it did. -/
def numBackUptoRow : OpenClaim := { program := "ytlaojndlelcdaaa", sum := "0c71650dd890f8e3f0d8390774ec37854d0801fdac131562f257ed54be50df21", func := "tallyman/tallymanlaw4.NumBack", spec := "numBack", apart := false, narrowed := true }
def NumBackUptoSaid : Prop := numBackUptoRow.holds Try.pinned (OpenSpec.upto numBackSpec)

/-- 'tallymanlaw3.PolySeals', WHERE WHAT IT READS IS OF BULK AT MOST 1048576: true; the input reads as it did. -/
def polySealsUptoRow : OpenClaim := { program := "ytlaojndlelcdaaa", sum := "0c71650dd890f8e3f0d8390774ec37854d0801fdac131562f257ed54be50df21", func := "tallyman/tallymanlaw3.PolySeals", spec := "polySeals", apart := false, narrowed := true }
def PolySealsUptoSaid : Prop := polySealsUptoRow.holds Try.pinned (OpenSpec.upto polySealsSpec)

/-- 'tallymanlaw21.NetRow', WHERE WHAT IT READS IS OF BULK AT MOST 1048576: true; the input reads as it did. -/
def netRowUptoRow : OpenClaim := { program := "ytlaojndlelcdaaa", sum := "0c71650dd890f8e3f0d8390774ec37854d0801fdac131562f257ed54be50df21", func := "tallyman/tallymanlaw21.NetRow", spec := "netRow", apart := false, narrowed := true }
def NetRowUptoSaid : Prop := netRowUptoRow.holds Try.pinned (OpenSpec.upto netRowSpec)

/-- 'tallymanlaw3.PolyKnown', WHERE WHAT IT READS IS OF BULK AT MOST 1048576: true; the input reads as it did. -/
def polyKnownUptoRow : OpenClaim := { program := "ytlaojndlelcdaaa", sum := "0c71650dd890f8e3f0d8390774ec37854d0801fdac131562f257ed54be50df21", func := "tallyman/tallymanlaw3.PolyKnown", spec := "polyKnown", apart := false, narrowed := true }
def PolyKnownUptoSaid : Prop := polyKnownUptoRow.holds Try.pinned (OpenSpec.upto polyKnownSpec)

/-- 'tallymanlaw21.NetKnown', WHERE WHAT IT READS IS OF BULK AT MOST 1048576: true; the input reads as it did. -/
def netKnownUptoRow : OpenClaim := { program := "ytlaojndlelcdaaa", sum := "0c71650dd890f8e3f0d8390774ec37854d0801fdac131562f257ed54be50df21", func := "tallyman/tallymanlaw21.NetKnown", spec := "netKnown", apart := false, narrowed := true }
def NetKnownUptoSaid : Prop := netKnownUptoRow.holds Try.pinned (OpenSpec.upto netKnownSpec)

/-- 'tallymanlaw21.NetPlays', WHERE WHAT IT READS IS OF BULK AT MOST 1048576: true; the input reads as it did. -/
def netPlaysUptoRow : OpenClaim := { program := "ytlaojndlelcdaaa", sum := "0c71650dd890f8e3f0d8390774ec37854d0801fdac131562f257ed54be50df21", func := "tallyman/tallymanlaw21.NetPlays", spec := "netPlays", apart := false, narrowed := true }
def NetPlaysUptoSaid : Prop := netPlaysUptoRow.holds Try.pinned (OpenSpec.upto netPlaysSpec)

/-- 'tallymanlaw20.FrameKnown', WHERE WHAT IT READS IS OF BULK AT MOST 1048576: true; the input reads as it did. -/
def frameKnownUptoRow : OpenClaim := { program := "ytlaojndlelcdaaa", sum := "0c71650dd890f8e3f0d8390774ec37854d0801fdac131562f257ed54be50df21", func := "tallyman/tallymanlaw20.FrameKnown", spec := "frameKnown", apart := false, narrowed := true }
def FrameKnownUptoSaid : Prop := frameKnownUptoRow.holds Try.pinned (OpenSpec.upto frameKnownSpec)

/-- 'tallymanlaw20.FrameSays', WHERE WHAT IT READS IS OF BULK AT MOST 1048576: true; the input reads as it did. -/
def frameSaysUptoRow : OpenClaim := { program := "ytlaojndlelcdaaa", sum := "0c71650dd890f8e3f0d8390774ec37854d0801fdac131562f257ed54be50df21", func := "tallyman/tallymanlaw20.FrameSays", spec := "frameSays", apart := false, narrowed := true }
def FrameSaysUptoSaid : Prop := frameSaysUptoRow.holds Try.pinned (OpenSpec.upto frameSaysSpec)

/-- 'tallymanlaw20.FrameApart', WHERE WHAT IT READS IS OF BULK AT MOST 1048576: true; the input reads as it did. -/
def frameApartUptoRow : OpenClaim := { program := "ytlaojndlelcdaaa", sum := "0c71650dd890f8e3f0d8390774ec37854d0801fdac131562f257ed54be50df21", func := "tallyman/tallymanlaw20.FrameApart", spec := "frameApart", apart := false, narrowed := true }
def FrameApartUptoSaid : Prop := frameApartUptoRow.holds Try.pinned (OpenSpec.upto frameApartSpec)

/-- 'tallymanlaw20.FrameAny', WHERE WHAT IT READS IS OF BULK AT MOST 1048576: true; the input reads as it did. -/
def frameAnyUptoRow : OpenClaim := { program := "ytlaojndlelcdaaa", sum := "0c71650dd890f8e3f0d8390774ec37854d0801fdac131562f257ed54be50df21", func := "tallyman/tallymanlaw20.FrameAny", spec := "frameAny", apart := false, narrowed := true }
def FrameAnyUptoSaid : Prop := frameAnyUptoRow.holds Try.pinned (OpenSpec.upto frameAnySpec)

/-- 'tallymanlaw22.LinkOrder', WHERE WHAT IT READS IS OF BULK AT MOST 1048576: true; the input reads as it did. -/
def linkOrderUptoRow : OpenClaim := { program := "ytlaojndlelcdaaa", sum := "0c71650dd890f8e3f0d8390774ec37854d0801fdac131562f257ed54be50df21", func := "tallyman/tallymanlaw22.LinkOrder", spec := "linkOrder", apart := false, narrowed := true }
def LinkOrderUptoSaid : Prop := linkOrderUptoRow.holds Try.pinned (OpenSpec.upto linkOrderSpec)

/-- 'tallymanlaw22.LinkKnown', WHERE WHAT IT READS IS OF BULK AT MOST 1048576: true; the input reads as it did. -/
def linkKnownUptoRow : OpenClaim := { program := "ytlaojndlelcdaaa", sum := "0c71650dd890f8e3f0d8390774ec37854d0801fdac131562f257ed54be50df21", func := "tallyman/tallymanlaw22.LinkKnown", spec := "linkKnown", apart := false, narrowed := true }
def LinkKnownUptoSaid : Prop := linkKnownUptoRow.holds Try.pinned (OpenSpec.upto linkKnownSpec)

/-- 'tallymanlaw22.LinkPlays', WHERE WHAT IT READS IS OF BULK AT MOST 1048576: true; the input reads as it did. -/
def linkPlaysUptoRow : OpenClaim := { program := "ytlaojndlelcdaaa", sum := "0c71650dd890f8e3f0d8390774ec37854d0801fdac131562f257ed54be50df21", func := "tallyman/tallymanlaw22.LinkPlays", spec := "linkPlays", apart := false, narrowed := true }
def LinkPlaysUptoSaid : Prop := linkPlaysUptoRow.holds Try.pinned (OpenSpec.upto linkPlaysSpec)

/-- 'tallymanlaw22.LinkTries', WHERE WHAT IT READS IS OF BULK AT MOST 1048576: true; the input reads as it did. -/
def linkTriesUptoRow : OpenClaim := { program := "ytlaojndlelcdaaa", sum := "0c71650dd890f8e3f0d8390774ec37854d0801fdac131562f257ed54be50df21", func := "tallyman/tallymanlaw22.LinkTries", spec := "linkTries", apart := false, narrowed := true }
def LinkTriesUptoSaid : Prop := linkTriesUptoRow.holds Try.pinned (OpenSpec.upto linkTriesSpec)

end Rows
end Go.Proofs.Ytlaojndlelcdaaa
