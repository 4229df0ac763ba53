/-
  DERIVED. GIVEN WITH THE SEED: THE CARDS: each row of YtidlldfghkaeeaaDoorRows.lean that lists a variable, with what it lists TIED to the program's text (the seventh form; the later family's looks); each row that meets fmt, with fmt's text TOLD by the authors' own Lean function (tested against real Go, not proved from fmt's source: count such statements apart). THE CARD IS WHAT COUNTS. Prove the row's statement (the work); the ties are given (YtidlldfghkaeeaaDoorTie.lean); close each card by the builder's one call (the guide's Derived/Test/ToyasCard.lean, 'card_holds'). Laid BY PROGRAM, IN A SANDBOX (cutbox-door.mjs). By AI agents, Wed Nov 11 2026. No macro, syntax, notation, axiom, sorry.
-/
import Derived.Test.YtidlldfghkaeeaaDoorRows
import GoSem.ClaimSeven
namespace Go.Proofs.YtidlldfghkaeeaaDoor
namespace Rows

/-- THE TIED CARD OF 'tallymanlaw8.TreeBack'. -/
def treeBackCard : Claim7 := { stood := { row := treeBackRow, standIns := [], harness := (true, "4f0ca967809bab161684aa313715b90bc45b2c9dceb00216acbb1fe7c6874cf0"), looks := false }, kinds := [], alts := [], laidByText := true, laidKinds := [.data, .pinned], laidTests := true, laidLooks := .later }
def TreeBackCardSaid : Prop := Claim7.holds Tryd.pinned (.plain (OpenSpec.ofChange treeBackSpec)) treeBackCard

/-- THE TIED CARD OF 'tallymanlaw8.TreeMoves'. -/
def treeMovesCard : Claim7 := { stood := { row := treeMovesRow, standIns := [], harness := (true, "4f0ca967809bab161684aa313715b90bc45b2c9dceb00216acbb1fe7c6874cf0"), looks := false }, kinds := [], alts := [], laidByText := true, laidKinds := [.data, .pinned], laidTests := true, laidLooks := .later }
def TreeMovesCardSaid : Prop := Claim7.holds Tryd.pinned (.plain (OpenSpec.ofChange treeMovesSpec)) treeMovesCard

/-- THE TIED CARD OF 'tallymanlaw8.TreeSays'. -/
def treeSaysCard : Claim7 := { stood := { row := treeSaysRow, standIns := [], harness := (true, "4f0ca967809bab161684aa313715b90bc45b2c9dceb00216acbb1fe7c6874cf0"), looks := false }, kinds := [], alts := [], laidByText := true, laidKinds := [.data, .pinned], laidTests := true, laidLooks := .later }
def TreeSaysCardSaid : Prop := Claim7.holds Tryd.pinned (.plain (OpenSpec.ofChange treeSaysSpec)) treeSaysCard

/-- THE TIED CARD OF 'tallymanlaw8.TreeKids'. -/
def treeKidsCard : Claim7 := { stood := { row := treeKidsRow, standIns := [], harness := (true, "4f0ca967809bab161684aa313715b90bc45b2c9dceb00216acbb1fe7c6874cf0"), looks := false }, kinds := [], alts := [], laidByText := true, laidKinds := [.data, .pinned], laidTests := true, laidLooks := .later }
def TreeKidsCardSaid : Prop := Claim7.holds Tryd.pinned (.plain (OpenSpec.ofChange treeKidsSpec)) treeKidsCard

/-- THE TIED CARD OF 'tallymanlaw8.TreeKnown'. -/
def treeKnownCard : Claim7 := { stood := { row := treeKnownRow, standIns := [], harness := (true, "4f0ca967809bab161684aa313715b90bc45b2c9dceb00216acbb1fe7c6874cf0"), looks := false }, kinds := [], alts := [], laidByText := true, laidKinds := [.data, .pinned], laidTests := true, laidLooks := .later }
def TreeKnownCardSaid : Prop := Claim7.holds Tryd.pinned (.plain (OpenSpec.ofChange treeKnownSpec)) treeKnownCard

/-- THE TIED CARD OF 'tallymanlaw9.DiskQuota'. -/
def diskQuotaCard : Claim7 := { stood := { row := diskQuotaRow, standIns := [], harness := (true, "4f0ca967809bab161684aa313715b90bc45b2c9dceb00216acbb1fe7c6874cf0"), looks := false }, kinds := [], alts := [], laidByText := true, laidKinds := [.data, .pinned], laidTests := true, laidLooks := .later }
def DiskQuotaCardSaid : Prop := Claim7.holds Tryd.pinned (.plain (OpenSpec.ofChange diskQuotaSpec)) diskQuotaCard

/-- THE TIED CARD OF 'tallymanlaw7.PathSays'. -/
def pathSaysCard : Claim7 := { stood := { row := pathSaysRow, standIns := [], harness := (true, "4f0ca967809bab161684aa313715b90bc45b2c9dceb00216acbb1fe7c6874cf0"), looks := false }, kinds := [], alts := [], laidByText := true, laidKinds := [.data, .pinned], laidTests := true, laidLooks := .later }
def PathSaysCardSaid : Prop := Claim7.holds Tryd.pinned (.plain (OpenSpec.ofChange pathSaysSpec)) pathSaysCard

/-- THE TIED CARD OF 'tallymanlaw9.DiskKnown'. -/
def diskKnownCard : Claim7 := { stood := { row := diskKnownRow, standIns := [], harness := (true, "4f0ca967809bab161684aa313715b90bc45b2c9dceb00216acbb1fe7c6874cf0"), looks := false }, kinds := [], alts := [], laidByText := true, laidKinds := [.data, .pinned], laidTests := true, laidLooks := .later }
def DiskKnownCardSaid : Prop := Claim7.holds Tryd.pinned (.plain (OpenSpec.ofChange diskKnownSpec)) diskKnownCard

/-- THE TIED CARD OF 'tallymanlaw9.DiskAll'. -/
def diskAllCard : Claim7 := { stood := { row := diskAllRow, standIns := [], harness := (true, "4f0ca967809bab161684aa313715b90bc45b2c9dceb00216acbb1fe7c6874cf0"), looks := false }, kinds := [], alts := [], laidByText := true, laidKinds := [.data, .pinned], laidTests := true, laidLooks := .later }
def DiskAllCardSaid : Prop := Claim7.holds Tryd.pinned (.plain (OpenSpec.ofChange diskAllSpec)) diskAllCard

/-- THE TIED CARD OF 'tallymanlaw9.DiskSure'. -/
def diskSureCard : Claim7 := { stood := { row := diskSureRow, standIns := [], harness := (true, "4f0ca967809bab161684aa313715b90bc45b2c9dceb00216acbb1fe7c6874cf0"), looks := false }, kinds := [], alts := [], laidByText := true, laidKinds := [.data, .pinned], laidTests := true, laidLooks := .later }
def DiskSureCardSaid : Prop := Claim7.holds Tryd.pinned (.plain (OpenSpec.ofChange diskSureSpec)) diskSureCard

/-- THE SECOND FORM's CARD OF 'tallymanlaw8.TreeBack'. -/
def treeBackUptoCard : Claim7 := { stood := { row := treeBackUptoRow, standIns := [], harness := (true, "4f0ca967809bab161684aa313715b90bc45b2c9dceb00216acbb1fe7c6874cf0"), looks := false }, kinds := [], alts := [], laidByText := true, laidKinds := [.data, .pinned], laidTests := true, laidLooks := .later }
def TreeBackUptoCardSaid : Prop := Claim7.holds Tryd.pinned (.plain (OpenSpec.upto treeBackSpec)) treeBackUptoCard

/-- THE SECOND FORM's CARD OF 'tallymanlaw8.TreeMoves'. -/
def treeMovesUptoCard : Claim7 := { stood := { row := treeMovesUptoRow, standIns := [], harness := (true, "4f0ca967809bab161684aa313715b90bc45b2c9dceb00216acbb1fe7c6874cf0"), looks := false }, kinds := [], alts := [], laidByText := true, laidKinds := [.data, .pinned], laidTests := true, laidLooks := .later }
def TreeMovesUptoCardSaid : Prop := Claim7.holds Tryd.pinned (.plain (OpenSpec.upto treeMovesSpec)) treeMovesUptoCard

/-- THE SECOND FORM's CARD OF 'tallymanlaw8.TreeSays'. -/
def treeSaysUptoCard : Claim7 := { stood := { row := treeSaysUptoRow, standIns := [], harness := (true, "4f0ca967809bab161684aa313715b90bc45b2c9dceb00216acbb1fe7c6874cf0"), looks := false }, kinds := [], alts := [], laidByText := true, laidKinds := [.data, .pinned], laidTests := true, laidLooks := .later }
def TreeSaysUptoCardSaid : Prop := Claim7.holds Tryd.pinned (.plain (OpenSpec.upto treeSaysSpec)) treeSaysUptoCard

/-- THE SECOND FORM's CARD OF 'tallymanlaw8.TreeKids'. -/
def treeKidsUptoCard : Claim7 := { stood := { row := treeKidsUptoRow, standIns := [], harness := (true, "4f0ca967809bab161684aa313715b90bc45b2c9dceb00216acbb1fe7c6874cf0"), looks := false }, kinds := [], alts := [], laidByText := true, laidKinds := [.data, .pinned], laidTests := true, laidLooks := .later }
def TreeKidsUptoCardSaid : Prop := Claim7.holds Tryd.pinned (.plain (OpenSpec.upto treeKidsSpec)) treeKidsUptoCard

/-- THE SECOND FORM's CARD OF 'tallymanlaw8.TreeKnown'. -/
def treeKnownUptoCard : Claim7 := { stood := { row := treeKnownUptoRow, standIns := [], harness := (true, "4f0ca967809bab161684aa313715b90bc45b2c9dceb00216acbb1fe7c6874cf0"), looks := false }, kinds := [], alts := [], laidByText := true, laidKinds := [.data, .pinned], laidTests := true, laidLooks := .later }
def TreeKnownUptoCardSaid : Prop := Claim7.holds Tryd.pinned (.plain (OpenSpec.upto treeKnownSpec)) treeKnownUptoCard

/-- THE SECOND FORM's CARD OF 'tallymanlaw9.DiskQuota'. -/
def diskQuotaUptoCard : Claim7 := { stood := { row := diskQuotaUptoRow, standIns := [], harness := (true, "4f0ca967809bab161684aa313715b90bc45b2c9dceb00216acbb1fe7c6874cf0"), looks := false }, kinds := [], alts := [], laidByText := true, laidKinds := [.data, .pinned], laidTests := true, laidLooks := .later }
def DiskQuotaUptoCardSaid : Prop := Claim7.holds Tryd.pinned (.plain (OpenSpec.upto diskQuotaSpec)) diskQuotaUptoCard

/-- THE SECOND FORM's CARD OF 'tallymanlaw7.PathSays'. -/
def pathSaysUptoCard : Claim7 := { stood := { row := pathSaysUptoRow, standIns := [], harness := (true, "4f0ca967809bab161684aa313715b90bc45b2c9dceb00216acbb1fe7c6874cf0"), looks := false }, kinds := [], alts := [], laidByText := true, laidKinds := [.data, .pinned], laidTests := true, laidLooks := .later }
def PathSaysUptoCardSaid : Prop := Claim7.holds Tryd.pinned (.plain (OpenSpec.upto pathSaysSpec)) pathSaysUptoCard

/-- THE SECOND FORM's CARD OF 'tallymanlaw9.DiskKnown'. -/
def diskKnownUptoCard : Claim7 := { stood := { row := diskKnownUptoRow, standIns := [], harness := (true, "4f0ca967809bab161684aa313715b90bc45b2c9dceb00216acbb1fe7c6874cf0"), looks := false }, kinds := [], alts := [], laidByText := true, laidKinds := [.data, .pinned], laidTests := true, laidLooks := .later }
def DiskKnownUptoCardSaid : Prop := Claim7.holds Tryd.pinned (.plain (OpenSpec.upto diskKnownSpec)) diskKnownUptoCard

/-- THE SECOND FORM's CARD OF 'tallymanlaw9.DiskAll'. -/
def diskAllUptoCard : Claim7 := { stood := { row := diskAllUptoRow, standIns := [], harness := (true, "4f0ca967809bab161684aa313715b90bc45b2c9dceb00216acbb1fe7c6874cf0"), looks := false }, kinds := [], alts := [], laidByText := true, laidKinds := [.data, .pinned], laidTests := true, laidLooks := .later }
def DiskAllUptoCardSaid : Prop := Claim7.holds Tryd.pinned (.plain (OpenSpec.upto diskAllSpec)) diskAllUptoCard

/-- THE SECOND FORM's CARD OF 'tallymanlaw9.DiskSure'. -/
def diskSureUptoCard : Claim7 := { stood := { row := diskSureUptoRow, standIns := [], harness := (true, "4f0ca967809bab161684aa313715b90bc45b2c9dceb00216acbb1fe7c6874cf0"), looks := false }, kinds := [], alts := [], laidByText := true, laidKinds := [.data, .pinned], laidTests := true, laidLooks := .later }
def DiskSureUptoCardSaid : Prop := Claim7.holds Tryd.pinned (.plain (OpenSpec.upto diskSureSpec)) diskSureUptoCard
end Rows
end Go.Proofs.YtidlldfghkaeeaaDoor
