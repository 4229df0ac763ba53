/-
  NARROWER THAN 'FOR EVERY INPUT', by the rows' own cells (each row's printed sentence says how): TreeBack: laid · TreeMoves: laid · TreeSays: laid · TreeKids: laid · TreeKnown: laid · DiskQuota: laid · PathSays: laid · DiskKnown: laid · DiskAll: laid · DiskSure: laid.
  DERIVED. THE GIVEN ROWS OF THIS SEAT. 10 by the template 'for every input the law returns true; each argument reads behind the call as it read before'; 0 by the template 'total and deterministic' (their statements: YtidlldfghkaeeaaDoorTotals.lean).
  GIVEN WITH THE SEED: the statements are not yours to turn. If you find one false, say at which input.
  Laid BY PROGRAM, IN A SANDBOX (cutbox-rows.mjs): the forced cells as the released guide's own fill.sh prints them over the translation b0a937880715932b… (all of the seat's roots in one cut). By AI agents, Wed Nov 11 2026. No macro, syntax, notation, axiom, sorry.
-/
import Derived.Test.YtidlldfghkaeeaaDoorChecked
import GoSem.PinnedTables
import GoSem.Claim
import GoSem.ClaimJoined
import GoSem.ClaimMapViews
import Derived.JoinedTies
import Derived.KernelRfl
namespace Go.Proofs.YtidlldfghkaeeaaDoor
/- THE CELL 'sum', in the pinned program and in every row, IS THE sha256 OF THE DUMP (.gsa) THAT YtidlldfghkaeeaaDoorProg.lean LOADS. Nothing in Lean hashes anything: it is a label: what it is worth is what the hold of that sum in a sandbox is worth. -/
noncomputable def Tryd.pinned : Pinned := { name := "ytidlldfghkaeeaadoor", sum := "b0a937880715932b5249c2a10da9c5398d67293b4079957d48aad6dee7f14e58", checked := Tryd.checked }
namespace Rows
def none {H : Type} : Left H := { results := [], args := [] }

/- WHAT THE LISTED PACKAGE-LEVEL VARIABLES READ AS WHEN THE CALL BEGINS. Each datum BY PROGRAM (the guide's laid-datum.mjs) off the statement by which the dump's own 'gosem.cut.vars' lays the variable. In a bare row this is a premise. The card (YtidlldfghkaeeaaDoorCards.lean) ties it to the program's text. -/
def laid_unicode_utf8_acceptRanges {H : Type} : DataW H := .agg [.agg [.lit (.int .u8 128), .lit (.int .u8 191)], .agg [.lit (.int .u8 160), .lit (.int .u8 191)], .agg [.lit (.int .u8 128), .lit (.int .u8 159)], .agg [.lit (.int .u8 144), .lit (.int .u8 191)], .agg [.lit (.int .u8 128), .lit (.int .u8 143)], .agg [.lit (.int .u8 0), .lit (.int .u8 0)], .agg [.lit (.int .u8 0), .lit (.int .u8 0)], .agg [.lit (.int .u8 0), .lit (.int .u8 0)], .agg [.lit (.int .u8 0), .lit (.int .u8 0)], .agg [.lit (.int .u8 0), .lit (.int .u8 0)], .agg [.lit (.int .u8 0), .lit (.int .u8 0)], .agg [.lit (.int .u8 0), .lit (.int .u8 0)], .agg [.lit (.int .u8 0), .lit (.int .u8 0)], .agg [.lit (.int .u8 0), .lit (.int .u8 0)], .agg [.lit (.int .u8 0), .lit (.int .u8 0)], .agg [.lit (.int .u8 0), .lit (.int .u8 0)]]
/-- One of Go's own tables, pinned by name: the form's constant. -/
def laid_unicode_utf8_first : DataW Unit := Go.Pinned.utf8First

/-- 'tallymanlaw8.TreeBack': WHATEVER THE INPUT: true; the input reads as it did. -/
def treeBackSpec : ChangeSpec := { name := "treeBack", fn := fun _ => fun
  | [d1, d2, d3] => { results := [.lit (.bool true)], args := [d1, d2, d3] }
  | _ => none }
def treeBackRow : OpenClaim := { program := "ytidlldfghkaeeaadoor", sum := "b0a937880715932b5249c2a10da9c5398d67293b4079957d48aad6dee7f14e58", func := "tallyman/tallymanlaw8.TreeBack", spec := "treeBack", inPlace := ["internal/bytealg.CountString", "internal/bytealg.IndexByteString", "internal/bytealg.IndexString", "slices.overlaps[tallyman/tree.Entry]"], unfollowed := true, recurses := true, named := ["unicode/utf8.first", "unicode/utf8.acceptRanges", "internal/bytealg.MaxLen"], apart := false, laid := [("unicode/utf8.acceptRanges", laid_unicode_utf8_acceptRanges), ("unicode/utf8.first", laid_unicode_utf8_first)] }
def TreeBackSaid : Prop := treeBackRow.holds Tryd.pinned (OpenSpec.ofChange treeBackSpec)

/-- ITS FALSE NEIGHBOUR: 'it returns false'. Refute it at one input. -/
def treeBackWrong : ChangeSpec := { name := "treeBack", fn := fun _ => fun
  | [d1, d2, d3] => { results := [.lit (.bool false)], args := [d1, d2, d3] }
  | _ => none }
def TreeBackWrongFalsely : Prop := treeBackRow.holds Tryd.pinned (OpenSpec.ofChange treeBackWrong)

/-- 'tallymanlaw8.TreeMoves': WHATEVER THE INPUT: true; the input reads as it did. -/
def treeMovesSpec : ChangeSpec := { name := "treeMoves", fn := fun _ => fun
  | [d1, d2, d3] => { results := [.lit (.bool true)], args := [d1, d2, d3] }
  | _ => none }
def treeMovesRow : OpenClaim := { program := "ytidlldfghkaeeaadoor", sum := "b0a937880715932b5249c2a10da9c5398d67293b4079957d48aad6dee7f14e58", func := "tallyman/tallymanlaw8.TreeMoves", spec := "treeMoves", inPlace := ["internal/bytealg.CountString", "internal/bytealg.IndexByteString", "internal/bytealg.IndexString", "slices.overlaps[tallyman/tree.Entry]"], unfollowed := true, recurses := true, named := ["unicode/utf8.first", "unicode/utf8.acceptRanges", "internal/bytealg.MaxLen"], apart := false, laid := [("unicode/utf8.acceptRanges", laid_unicode_utf8_acceptRanges), ("unicode/utf8.first", laid_unicode_utf8_first)] }
def TreeMovesSaid : Prop := treeMovesRow.holds Tryd.pinned (OpenSpec.ofChange treeMovesSpec)

/-- ITS FALSE NEIGHBOUR: 'it returns false'. Refute it at one input. -/
def treeMovesWrong : ChangeSpec := { name := "treeMoves", fn := fun _ => fun
  | [d1, d2, d3] => { results := [.lit (.bool false)], args := [d1, d2, d3] }
  | _ => none }
def TreeMovesWrongFalsely : Prop := treeMovesRow.holds Tryd.pinned (OpenSpec.ofChange treeMovesWrong)

/-- 'tallymanlaw8.TreeSays': WHATEVER THE INPUT: true; the input reads as it did. -/
def treeSaysSpec : ChangeSpec := { name := "treeSays", fn := fun _ => fun
  | [d1, d2, d3] => { results := [.lit (.bool true)], args := [d1, d2, d3] }
  | _ => none }
def treeSaysRow : OpenClaim := { program := "ytidlldfghkaeeaadoor", sum := "b0a937880715932b5249c2a10da9c5398d67293b4079957d48aad6dee7f14e58", func := "tallyman/tallymanlaw8.TreeSays", spec := "treeSays", inPlace := ["internal/bytealg.CountString", "internal/bytealg.IndexByteString", "internal/bytealg.IndexString", "slices.overlaps[tallyman/tree.Entry]"], unfollowed := true, recurses := true, named := ["unicode/utf8.first", "unicode/utf8.acceptRanges", "internal/bytealg.MaxLen"], apart := false, laid := [("unicode/utf8.acceptRanges", laid_unicode_utf8_acceptRanges), ("unicode/utf8.first", laid_unicode_utf8_first)] }
def TreeSaysSaid : Prop := treeSaysRow.holds Tryd.pinned (OpenSpec.ofChange treeSaysSpec)

/-- ITS FALSE NEIGHBOUR: 'it returns false'. Refute it at one input. -/
def treeSaysWrong : ChangeSpec := { name := "treeSays", fn := fun _ => fun
  | [d1, d2, d3] => { results := [.lit (.bool false)], args := [d1, d2, d3] }
  | _ => none }
def TreeSaysWrongFalsely : Prop := treeSaysRow.holds Tryd.pinned (OpenSpec.ofChange treeSaysWrong)

/-- 'tallymanlaw8.TreeKids': WHATEVER THE INPUT: true; the input reads as it did. -/
def treeKidsSpec : ChangeSpec := { name := "treeKids", fn := fun _ => fun
  | [d] => { results := [.lit (.bool true)], args := [d] }
  | _ => none }
def treeKidsRow : OpenClaim := { program := "ytidlldfghkaeeaadoor", sum := "b0a937880715932b5249c2a10da9c5398d67293b4079957d48aad6dee7f14e58", func := "tallyman/tallymanlaw8.TreeKids", spec := "treeKids", inPlace := ["internal/bytealg.CountString", "internal/bytealg.IndexByteString", "internal/bytealg.IndexString", "slices.overlaps[tallyman/tree.Entry]"], unfollowed := true, recurses := true, named := ["unicode/utf8.first", "unicode/utf8.acceptRanges", "internal/bytealg.MaxLen"], apart := false, laid := [("unicode/utf8.acceptRanges", laid_unicode_utf8_acceptRanges), ("unicode/utf8.first", laid_unicode_utf8_first)] }
def TreeKidsSaid : Prop := treeKidsRow.holds Tryd.pinned (OpenSpec.ofChange treeKidsSpec)

/-- ITS FALSE NEIGHBOUR: 'it returns false'. Refute it at one input. -/
def treeKidsWrong : ChangeSpec := { name := "treeKids", fn := fun _ => fun
  | [d] => { results := [.lit (.bool false)], args := [d] }
  | _ => none }
def TreeKidsWrongFalsely : Prop := treeKidsRow.holds Tryd.pinned (OpenSpec.ofChange treeKidsWrong)

/-- 'tallymanlaw8.TreeKnown': WHATEVER THE INPUT: true; the input reads as it did. -/
def treeKnownSpec : ChangeSpec := { name := "treeKnown", fn := fun _ => fun
  | [] => { results := [.lit (.bool true)], args := [] }
  | _ => none }
def treeKnownRow : OpenClaim := { program := "ytidlldfghkaeeaadoor", sum := "b0a937880715932b5249c2a10da9c5398d67293b4079957d48aad6dee7f14e58", func := "tallyman/tallymanlaw8.TreeKnown", spec := "treeKnown", inPlace := ["internal/bytealg.CountString", "internal/bytealg.IndexByteString", "internal/bytealg.IndexString", "slices.overlaps[tallyman/tree.Entry]"], unfollowed := true, recurses := true, named := ["unicode/utf8.first", "unicode/utf8.acceptRanges", "internal/bytealg.MaxLen"], apart := false, laid := [("unicode/utf8.acceptRanges", laid_unicode_utf8_acceptRanges), ("unicode/utf8.first", laid_unicode_utf8_first)] }
def TreeKnownSaid : Prop := treeKnownRow.holds Tryd.pinned (OpenSpec.ofChange treeKnownSpec)

/-- ITS FALSE NEIGHBOUR: 'it returns false'. Refute it at one input. -/
def treeKnownWrong : ChangeSpec := { name := "treeKnown", fn := fun _ => fun
  | [] => { results := [.lit (.bool false)], args := [] }
  | _ => none }
def TreeKnownWrongFalsely : Prop := treeKnownRow.holds Tryd.pinned (OpenSpec.ofChange treeKnownWrong)

/-- 'tallymanlaw9.DiskQuota': WHATEVER THE INPUT: true; the input reads as it did. -/
def diskQuotaSpec : ChangeSpec := { name := "diskQuota", fn := fun _ => fun
  | [d1, d2] => { results := [.lit (.bool true)], args := [d1, d2] }
  | _ => none }
def diskQuotaRow : OpenClaim := { program := "ytidlldfghkaeeaadoor", sum := "b0a937880715932b5249c2a10da9c5398d67293b4079957d48aad6dee7f14e58", func := "tallyman/tallymanlaw9.DiskQuota", spec := "diskQuota", inPlace := ["internal/bytealg.CountString", "internal/bytealg.IndexByteString", "internal/bytealg.IndexString", "slices.overlaps[tallyman/tree.Entry]"], unfollowed := true, recurses := true, named := ["unicode/utf8.first", "unicode/utf8.acceptRanges", "internal/bytealg.MaxLen"], apart := false, laid := [("unicode/utf8.acceptRanges", laid_unicode_utf8_acceptRanges), ("unicode/utf8.first", laid_unicode_utf8_first)] }
def DiskQuotaSaid : Prop := diskQuotaRow.holds Tryd.pinned (OpenSpec.ofChange diskQuotaSpec)

/-- ITS FALSE NEIGHBOUR: 'it returns false'. Refute it at one input. -/
def diskQuotaWrong : ChangeSpec := { name := "diskQuota", fn := fun _ => fun
  | [d1, d2] => { results := [.lit (.bool false)], args := [d1, d2] }
  | _ => none }
def DiskQuotaWrongFalsely : Prop := diskQuotaRow.holds Tryd.pinned (OpenSpec.ofChange diskQuotaWrong)

/-- 'tallymanlaw7.PathSays': WHATEVER THE INPUT: true; the input reads as it did. -/
def pathSaysSpec : ChangeSpec := { name := "pathSays", fn := fun _ => fun
  | [d1, d2, d3] => { results := [.lit (.bool true)], args := [d1, d2, d3] }
  | _ => none }
def pathSaysRow : OpenClaim := { program := "ytidlldfghkaeeaadoor", sum := "b0a937880715932b5249c2a10da9c5398d67293b4079957d48aad6dee7f14e58", func := "tallyman/tallymanlaw7.PathSays", spec := "pathSays", inPlace := ["internal/bytealg.CountString", "internal/bytealg.IndexByteString", "internal/bytealg.IndexString"], unfollowed := true, recurses := true, named := ["unicode/utf8.first", "unicode/utf8.acceptRanges", "internal/bytealg.MaxLen"], apart := false, laid := [("unicode/utf8.acceptRanges", laid_unicode_utf8_acceptRanges), ("unicode/utf8.first", laid_unicode_utf8_first)] }
def PathSaysSaid : Prop := pathSaysRow.holds Tryd.pinned (OpenSpec.ofChange pathSaysSpec)

/-- ITS FALSE NEIGHBOUR: 'it returns false'. Refute it at one input. -/
def pathSaysWrong : ChangeSpec := { name := "pathSays", fn := fun _ => fun
  | [d1, d2, d3] => { results := [.lit (.bool false)], args := [d1, d2, d3] }
  | _ => none }
def PathSaysWrongFalsely : Prop := pathSaysRow.holds Tryd.pinned (OpenSpec.ofChange pathSaysWrong)

/-- 'tallymanlaw9.DiskKnown': WHATEVER THE INPUT: true; the input reads as it did. -/
def diskKnownSpec : ChangeSpec := { name := "diskKnown", fn := fun _ => fun
  | [] => { results := [.lit (.bool true)], args := [] }
  | _ => none }
def diskKnownRow : OpenClaim := { program := "ytidlldfghkaeeaadoor", sum := "b0a937880715932b5249c2a10da9c5398d67293b4079957d48aad6dee7f14e58", func := "tallyman/tallymanlaw9.DiskKnown", spec := "diskKnown", inPlace := ["internal/bytealg.CountString", "internal/bytealg.IndexByteString", "internal/bytealg.IndexString", "slices.overlaps[tallyman/tree.Entry]"], unfollowed := true, recurses := true, named := ["unicode/utf8.first", "unicode/utf8.acceptRanges", "internal/bytealg.MaxLen"], apart := false, laid := [("unicode/utf8.acceptRanges", laid_unicode_utf8_acceptRanges), ("unicode/utf8.first", laid_unicode_utf8_first)] }
def DiskKnownSaid : Prop := diskKnownRow.holds Tryd.pinned (OpenSpec.ofChange diskKnownSpec)

/-- ITS FALSE NEIGHBOUR: 'it returns false'. Refute it at one input. -/
def diskKnownWrong : ChangeSpec := { name := "diskKnown", fn := fun _ => fun
  | [] => { results := [.lit (.bool false)], args := [] }
  | _ => none }
def DiskKnownWrongFalsely : Prop := diskKnownRow.holds Tryd.pinned (OpenSpec.ofChange diskKnownWrong)

/-- 'tallymanlaw9.DiskAll': WHATEVER THE INPUT: true; the input reads as it did. -/
def diskAllSpec : ChangeSpec := { name := "diskAll", fn := fun _ => fun
  | [d] => { results := [.lit (.bool true)], args := [d] }
  | _ => none }
def diskAllRow : OpenClaim := { program := "ytidlldfghkaeeaadoor", sum := "b0a937880715932b5249c2a10da9c5398d67293b4079957d48aad6dee7f14e58", func := "tallyman/tallymanlaw9.DiskAll", spec := "diskAll", inPlace := ["internal/bytealg.CountString", "internal/bytealg.IndexByteString", "internal/bytealg.IndexString", "slices.overlaps[tallyman/tree.Entry]"], unfollowed := true, recurses := true, named := ["unicode/utf8.first", "unicode/utf8.acceptRanges", "internal/bytealg.MaxLen"], apart := false, laid := [("unicode/utf8.acceptRanges", laid_unicode_utf8_acceptRanges), ("unicode/utf8.first", laid_unicode_utf8_first)] }
def DiskAllSaid : Prop := diskAllRow.holds Tryd.pinned (OpenSpec.ofChange diskAllSpec)

/-- ITS FALSE NEIGHBOUR: 'it returns false'. Refute it at one input. -/
def diskAllWrong : ChangeSpec := { name := "diskAll", fn := fun _ => fun
  | [d] => { results := [.lit (.bool false)], args := [d] }
  | _ => none }
def DiskAllWrongFalsely : Prop := diskAllRow.holds Tryd.pinned (OpenSpec.ofChange diskAllWrong)

/-- 'tallymanlaw9.DiskSure': WHATEVER THE INPUT: true; the input reads as it did. -/
def diskSureSpec : ChangeSpec := { name := "diskSure", fn := fun _ => fun
  | [d1, d2, d3, d4] => { results := [.lit (.bool true)], args := [d1, d2, d3, d4] }
  | _ => none }
def diskSureRow : OpenClaim := { program := "ytidlldfghkaeeaadoor", sum := "b0a937880715932b5249c2a10da9c5398d67293b4079957d48aad6dee7f14e58", func := "tallyman/tallymanlaw9.DiskSure", spec := "diskSure", inPlace := ["internal/bytealg.CountString", "internal/bytealg.IndexByteString", "internal/bytealg.IndexString", "slices.overlaps[tallyman/tree.Entry]"], unfollowed := true, recurses := true, named := ["unicode/utf8.first", "unicode/utf8.acceptRanges", "internal/bytealg.MaxLen"], apart := false, laid := [("unicode/utf8.acceptRanges", laid_unicode_utf8_acceptRanges), ("unicode/utf8.first", laid_unicode_utf8_first)] }
def DiskSureSaid : Prop := diskSureRow.holds Tryd.pinned (OpenSpec.ofChange diskSureSpec)

/-- ITS FALSE NEIGHBOUR: 'it returns false'. Refute it at one input. -/
def diskSureWrong : ChangeSpec := { name := "diskSure", fn := fun _ => fun
  | [d1, d2, d3, d4] => { results := [.lit (.bool false)], args := [d1, d2, d3, d4] }
  | _ => none }
def DiskSureWrongFalsely : Prop := diskSureRow.holds Tryd.pinned (OpenSpec.ofChange diskSureWrong)

/- THE SECOND FORM. 'bulk': how many values and letters a reading holds, each counted each time it is reached (what is shared counts as often as it is met; a slice's spare places count too). A statement '..UptoSaid' is the law's where the arguments, and the package variables that the reading takes, are together of bulk at most 1048576: NARROWER than '..Said'. Prove '..Said' where nothing that the law and all that it calls make is longer than what came in: it says more and counts as full. Else prove '..UptoSaid'. A law counts once. -/
mutual
def uptoBulk {H : Type} : DataW H → Nat
  | .lit (.string bytes) => bytes.length + 1
  | .lit _ => 1
  | .nil => 1
  | .ptr d => uptoBulk d + 1
  | .slice elems spare => uptoBulkAll elems + uptoBulkAll spare + 1
  | .agg parts => uptoBulkAll parts + 1
  | .iface _ d => uptoBulk d + 1
  | .map entries => uptoBulkEntries entries + 1
  | .held _ => 1
def uptoBulkAll {H : Type} : List (DataW H) → Nat
  | [] => 0
  | d :: r => uptoBulk d + uptoBulkAll r
def uptoBulkEntries {H : Type} : List (Lit × DataW H) → Nat
  | [] => 0
  | x :: r => uptoBulkEntry x + uptoBulkEntries r
def uptoBulkEntry {H : Type} : Lit × DataW H → Nat
  | (.string bytes, d) => bytes.length + uptoBulk d + 1
  | (_, d) => uptoBulk d + 1
 end
def uptoSmall : (H : Type) → List (DataW H) → Bool := fun _ ds => decide (uptoBulkAll ds ≤ 1048576)
def OpenSpec.upto (s : _root_.Go.ChangeSpec) : _root_.Go.OpenSpec := { _root_.Go.OpenSpec.ofChange s with cond := some uptoSmall }

/-- 'tallymanlaw8.TreeBack', WHERE WHAT IT READS IS OF BULK AT MOST 1048576: true; the input reads as it did. -/
def treeBackUptoRow : OpenClaim := { program := "ytidlldfghkaeeaadoor", sum := "b0a937880715932b5249c2a10da9c5398d67293b4079957d48aad6dee7f14e58", func := "tallyman/tallymanlaw8.TreeBack", spec := "treeBack", inPlace := ["internal/bytealg.CountString", "internal/bytealg.IndexByteString", "internal/bytealg.IndexString", "slices.overlaps[tallyman/tree.Entry]"], unfollowed := true, recurses := true, named := ["unicode/utf8.first", "unicode/utf8.acceptRanges", "internal/bytealg.MaxLen"], apart := false, laid := [("unicode/utf8.acceptRanges", laid_unicode_utf8_acceptRanges), ("unicode/utf8.first", laid_unicode_utf8_first)], narrowed := true }
def TreeBackUptoSaid : Prop := treeBackUptoRow.holds Tryd.pinned (OpenSpec.upto treeBackSpec)

/-- 'tallymanlaw8.TreeMoves', WHERE WHAT IT READS IS OF BULK AT MOST 1048576: true; the input reads as it did. -/
def treeMovesUptoRow : OpenClaim := { program := "ytidlldfghkaeeaadoor", sum := "b0a937880715932b5249c2a10da9c5398d67293b4079957d48aad6dee7f14e58", func := "tallyman/tallymanlaw8.TreeMoves", spec := "treeMoves", inPlace := ["internal/bytealg.CountString", "internal/bytealg.IndexByteString", "internal/bytealg.IndexString", "slices.overlaps[tallyman/tree.Entry]"], unfollowed := true, recurses := true, named := ["unicode/utf8.first", "unicode/utf8.acceptRanges", "internal/bytealg.MaxLen"], apart := false, laid := [("unicode/utf8.acceptRanges", laid_unicode_utf8_acceptRanges), ("unicode/utf8.first", laid_unicode_utf8_first)], narrowed := true }
def TreeMovesUptoSaid : Prop := treeMovesUptoRow.holds Tryd.pinned (OpenSpec.upto treeMovesSpec)

/-- 'tallymanlaw8.TreeSays', WHERE WHAT IT READS IS OF BULK AT MOST 1048576: true; the input reads as it did. -/
def treeSaysUptoRow : OpenClaim := { program := "ytidlldfghkaeeaadoor", sum := "b0a937880715932b5249c2a10da9c5398d67293b4079957d48aad6dee7f14e58", func := "tallyman/tallymanlaw8.TreeSays", spec := "treeSays", inPlace := ["internal/bytealg.CountString", "internal/bytealg.IndexByteString", "internal/bytealg.IndexString", "slices.overlaps[tallyman/tree.Entry]"], unfollowed := true, recurses := true, named := ["unicode/utf8.first", "unicode/utf8.acceptRanges", "internal/bytealg.MaxLen"], apart := false, laid := [("unicode/utf8.acceptRanges", laid_unicode_utf8_acceptRanges), ("unicode/utf8.first", laid_unicode_utf8_first)], narrowed := true }
def TreeSaysUptoSaid : Prop := treeSaysUptoRow.holds Tryd.pinned (OpenSpec.upto treeSaysSpec)

/-- 'tallymanlaw8.TreeKids', WHERE WHAT IT READS IS OF BULK AT MOST 1048576: true; the input reads as it did. -/
def treeKidsUptoRow : OpenClaim := { program := "ytidlldfghkaeeaadoor", sum := "b0a937880715932b5249c2a10da9c5398d67293b4079957d48aad6dee7f14e58", func := "tallyman/tallymanlaw8.TreeKids", spec := "treeKids", inPlace := ["internal/bytealg.CountString", "internal/bytealg.IndexByteString", "internal/bytealg.IndexString", "slices.overlaps[tallyman/tree.Entry]"], unfollowed := true, recurses := true, named := ["unicode/utf8.first", "unicode/utf8.acceptRanges", "internal/bytealg.MaxLen"], apart := false, laid := [("unicode/utf8.acceptRanges", laid_unicode_utf8_acceptRanges), ("unicode/utf8.first", laid_unicode_utf8_first)], narrowed := true }
def TreeKidsUptoSaid : Prop := treeKidsUptoRow.holds Tryd.pinned (OpenSpec.upto treeKidsSpec)

/-- 'tallymanlaw8.TreeKnown', WHERE WHAT IT READS IS OF BULK AT MOST 1048576: true; the input reads as it did. -/
def treeKnownUptoRow : OpenClaim := { program := "ytidlldfghkaeeaadoor", sum := "b0a937880715932b5249c2a10da9c5398d67293b4079957d48aad6dee7f14e58", func := "tallyman/tallymanlaw8.TreeKnown", spec := "treeKnown", inPlace := ["internal/bytealg.CountString", "internal/bytealg.IndexByteString", "internal/bytealg.IndexString", "slices.overlaps[tallyman/tree.Entry]"], unfollowed := true, recurses := true, named := ["unicode/utf8.first", "unicode/utf8.acceptRanges", "internal/bytealg.MaxLen"], apart := false, laid := [("unicode/utf8.acceptRanges", laid_unicode_utf8_acceptRanges), ("unicode/utf8.first", laid_unicode_utf8_first)], narrowed := true }
def TreeKnownUptoSaid : Prop := treeKnownUptoRow.holds Tryd.pinned (OpenSpec.upto treeKnownSpec)

/-- 'tallymanlaw9.DiskQuota', WHERE WHAT IT READS IS OF BULK AT MOST 1048576: true; the input reads as it did. -/
def diskQuotaUptoRow : OpenClaim := { program := "ytidlldfghkaeeaadoor", sum := "b0a937880715932b5249c2a10da9c5398d67293b4079957d48aad6dee7f14e58", func := "tallyman/tallymanlaw9.DiskQuota", spec := "diskQuota", inPlace := ["internal/bytealg.CountString", "internal/bytealg.IndexByteString", "internal/bytealg.IndexString", "slices.overlaps[tallyman/tree.Entry]"], unfollowed := true, recurses := true, named := ["unicode/utf8.first", "unicode/utf8.acceptRanges", "internal/bytealg.MaxLen"], apart := false, laid := [("unicode/utf8.acceptRanges", laid_unicode_utf8_acceptRanges), ("unicode/utf8.first", laid_unicode_utf8_first)], narrowed := true }
def DiskQuotaUptoSaid : Prop := diskQuotaUptoRow.holds Tryd.pinned (OpenSpec.upto diskQuotaSpec)

/-- 'tallymanlaw7.PathSays', WHERE WHAT IT READS IS OF BULK AT MOST 1048576: true; the input reads as it did. -/
def pathSaysUptoRow : OpenClaim := { program := "ytidlldfghkaeeaadoor", sum := "b0a937880715932b5249c2a10da9c5398d67293b4079957d48aad6dee7f14e58", func := "tallyman/tallymanlaw7.PathSays", spec := "pathSays", inPlace := ["internal/bytealg.CountString", "internal/bytealg.IndexByteString", "internal/bytealg.IndexString"], unfollowed := true, recurses := true, named := ["unicode/utf8.first", "unicode/utf8.acceptRanges", "internal/bytealg.MaxLen"], apart := false, laid := [("unicode/utf8.acceptRanges", laid_unicode_utf8_acceptRanges), ("unicode/utf8.first", laid_unicode_utf8_first)], narrowed := true }
def PathSaysUptoSaid : Prop := pathSaysUptoRow.holds Tryd.pinned (OpenSpec.upto pathSaysSpec)

/-- 'tallymanlaw9.DiskKnown', WHERE WHAT IT READS IS OF BULK AT MOST 1048576: true; the input reads as it did. -/
def diskKnownUptoRow : OpenClaim := { program := "ytidlldfghkaeeaadoor", sum := "b0a937880715932b5249c2a10da9c5398d67293b4079957d48aad6dee7f14e58", func := "tallyman/tallymanlaw9.DiskKnown", spec := "diskKnown", inPlace := ["internal/bytealg.CountString", "internal/bytealg.IndexByteString", "internal/bytealg.IndexString", "slices.overlaps[tallyman/tree.Entry]"], unfollowed := true, recurses := true, named := ["unicode/utf8.first", "unicode/utf8.acceptRanges", "internal/bytealg.MaxLen"], apart := false, laid := [("unicode/utf8.acceptRanges", laid_unicode_utf8_acceptRanges), ("unicode/utf8.first", laid_unicode_utf8_first)], narrowed := true }
def DiskKnownUptoSaid : Prop := diskKnownUptoRow.holds Tryd.pinned (OpenSpec.upto diskKnownSpec)

/-- 'tallymanlaw9.DiskAll', WHERE WHAT IT READS IS OF BULK AT MOST 1048576: true; the input reads as it did. -/
def diskAllUptoRow : OpenClaim := { program := "ytidlldfghkaeeaadoor", sum := "b0a937880715932b5249c2a10da9c5398d67293b4079957d48aad6dee7f14e58", func := "tallyman/tallymanlaw9.DiskAll", spec := "diskAll", inPlace := ["internal/bytealg.CountString", "internal/bytealg.IndexByteString", "internal/bytealg.IndexString", "slices.overlaps[tallyman/tree.Entry]"], unfollowed := true, recurses := true, named := ["unicode/utf8.first", "unicode/utf8.acceptRanges", "internal/bytealg.MaxLen"], apart := false, laid := [("unicode/utf8.acceptRanges", laid_unicode_utf8_acceptRanges), ("unicode/utf8.first", laid_unicode_utf8_first)], narrowed := true }
def DiskAllUptoSaid : Prop := diskAllUptoRow.holds Tryd.pinned (OpenSpec.upto diskAllSpec)

/-- 'tallymanlaw9.DiskSure', WHERE WHAT IT READS IS OF BULK AT MOST 1048576: true; the input reads as it did. -/
def diskSureUptoRow : OpenClaim := { program := "ytidlldfghkaeeaadoor", sum := "b0a937880715932b5249c2a10da9c5398d67293b4079957d48aad6dee7f14e58", func := "tallyman/tallymanlaw9.DiskSure", spec := "diskSure", inPlace := ["internal/bytealg.CountString", "internal/bytealg.IndexByteString", "internal/bytealg.IndexString", "slices.overlaps[tallyman/tree.Entry]"], unfollowed := true, recurses := true, named := ["unicode/utf8.first", "unicode/utf8.acceptRanges", "internal/bytealg.MaxLen"], apart := false, laid := [("unicode/utf8.acceptRanges", laid_unicode_utf8_acceptRanges), ("unicode/utf8.first", laid_unicode_utf8_first)], narrowed := true }
def DiskSureUptoSaid : Prop := diskSureUptoRow.holds Tryd.pinned (OpenSpec.upto diskSureSpec)

end Rows
end Go.Proofs.YtidlldfghkaeeaaDoor
