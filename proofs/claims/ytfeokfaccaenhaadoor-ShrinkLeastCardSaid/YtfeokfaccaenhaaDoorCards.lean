/-
  DERIVED. GIVEN WITH THE SEED: THE CARDS: each row of YtfeokfaccaenhaaDoorRows.lean that lists a variable, with what it lists TIED to the program's text (the seventh form; the later family's looks); each row that meets fmt, with fmt's text TOLD by the authors' own Lean function (tested against real Go, not proved from fmt's source: count such statements apart). THE CARD IS WHAT COUNTS. Prove the row's statement (the work); the ties are given (YtfeokfaccaenhaaDoorTie.lean); close each card by the builder's one call (the guide's Derived/Test/ToyasCard.lean, 'card_holds'). Laid BY PROGRAM, IN A SANDBOX (cutbox-door.mjs). By AI agents, Wed Nov 11 2026. No macro, syntax, notation, axiom, sorry.
-/
import Derived.Test.YtfeokfaccaenhaaDoorRows
import GoSem.ClaimSeven
namespace Go.Proofs.YtfeokfaccaenhaaDoor
namespace Rows

/-- THE TIED CARD OF 'joinerylaw23.AllocPuts'. -/
def allocPutsCard : Claim7 := { stood := { row := allocPutsRow, standIns := [], harness := (true, "0c780141f8b9d071520d5227abd4a43ac2d6671a452680be632286bce2013187"), looks := true }, kinds := [], alts := [], laidByText := true, laidKinds := [.data], laidTests := true, laidLooks := .later }
def AllocPutsCardSaid : Prop := Claim7.holds Tryd.pinned (.plain (OpenSpec.ofChange allocPutsSpec)) allocPutsCard

/-- THE TIED CARD OF 'joinerylaw23.AllocCounts'. -/
def allocCountsCard : Claim7 := { stood := { row := allocCountsRow, standIns := [], harness := (true, "0c780141f8b9d071520d5227abd4a43ac2d6671a452680be632286bce2013187"), looks := true }, kinds := [], alts := [], laidByText := true, laidKinds := [.data], laidTests := true, laidLooks := .later }
def AllocCountsCardSaid : Prop := Claim7.holds Tryd.pinned (.plain (OpenSpec.ofChange allocCountsSpec)) allocCountsCard

/-- THE TIED CARD OF 'joinerylaw23.AllocTwice'. -/
def allocTwiceCard : Claim7 := { stood := { row := allocTwiceRow, standIns := [], harness := (true, "0c780141f8b9d071520d5227abd4a43ac2d6671a452680be632286bce2013187"), looks := true }, kinds := [], alts := [], laidByText := true, laidKinds := [.data], laidTests := true, laidLooks := .later }
def AllocTwiceCardSaid : Prop := Claim7.holds Tryd.pinned (.plain (OpenSpec.ofChange allocTwiceSpec)) allocTwiceCard

/-- THE TIED CARD OF 'joinerylaw20.ShrinkKeeps'. -/
def shrinkKeepsCard : Claim7 := { stood := { row := shrinkKeepsRow, standIns := [], harness := (true, "0c780141f8b9d071520d5227abd4a43ac2d6671a452680be632286bce2013187"), looks := true }, kinds := [], alts := [], laidByText := true, laidKinds := [.data], laidTests := true, laidLooks := .later }
def ShrinkKeepsCardSaid : Prop := Claim7.holds Tryd.pinned (.plain (OpenSpec.ofChange shrinkKeepsSpec)) shrinkKeepsCard

/-- THE TIED CARD OF 'joinerylaw20.ShrinkLeast'. -/
def shrinkLeastCard : Claim7 := { stood := { row := shrinkLeastRow, standIns := [], harness := (true, "0c780141f8b9d071520d5227abd4a43ac2d6671a452680be632286bce2013187"), looks := true }, kinds := [], alts := [], laidByText := true, laidKinds := [.data], laidTests := true, laidLooks := .later }
def ShrinkLeastCardSaid : Prop := Claim7.holds Tryd.pinned (.plain (OpenSpec.ofChange shrinkLeastSpec)) shrinkLeastCard

/-- THE TIED CARD OF 'joinerylaw20.ShrinkSwaps'. -/
def shrinkSwapsCard : Claim7 := { stood := { row := shrinkSwapsRow, standIns := [], harness := (true, "0c780141f8b9d071520d5227abd4a43ac2d6671a452680be632286bce2013187"), looks := true }, kinds := [], alts := [], laidByText := true, laidKinds := [.data], laidTests := true, laidLooks := .later }
def ShrinkSwapsCardSaid : Prop := Claim7.holds Tryd.pinned (.plain (OpenSpec.ofChange shrinkSwapsSpec)) shrinkSwapsCard

/-- THE TIED CARD OF 'joinerylaw20.ShrinkSame'. -/
def shrinkSameCard : Claim7 := { stood := { row := shrinkSameRow, standIns := [], harness := (true, "0c780141f8b9d071520d5227abd4a43ac2d6671a452680be632286bce2013187"), looks := true }, kinds := [], alts := [], laidByText := true, laidKinds := [.data], laidTests := true, laidLooks := .later }
def ShrinkSameCardSaid : Prop := Claim7.holds Tryd.pinned (.plain (OpenSpec.ofChange shrinkSameSpec)) shrinkSameCard

/-- THE TIED CARD OF 'joinerylaw19.FindStays'. -/
def findStaysCard : Claim7 := { stood := { row := findStaysRow, standIns := [], harness := (true, "0c780141f8b9d071520d5227abd4a43ac2d6671a452680be632286bce2013187"), looks := true }, kinds := [], alts := [], laidByText := true, laidKinds := [.data], laidTests := true, laidLooks := .later }
def FindStaysCardSaid : Prop := Claim7.holds Tryd.pinned (.plain (OpenSpec.ofChange findStaysSpec)) findStaysCard

/-- THE TIED CARD OF 'joinerylaw19.FindFirst'. -/
def findFirstCard : Claim7 := { stood := { row := findFirstRow, standIns := [], harness := (true, "0c780141f8b9d071520d5227abd4a43ac2d6671a452680be632286bce2013187"), looks := true }, kinds := [], alts := [], laidByText := true, laidKinds := [.data], laidTests := true, laidLooks := .later }
def FindFirstCardSaid : Prop := Claim7.holds Tryd.pinned (.plain (OpenSpec.ofChange findFirstSpec)) findFirstCard

/-- THE TIED CARD OF 'joinerylaw19.FindSelf'. -/
def findSelfCard : Claim7 := { stood := { row := findSelfRow, standIns := [], harness := (true, "0c780141f8b9d071520d5227abd4a43ac2d6671a452680be632286bce2013187"), looks := true }, kinds := [], alts := [], laidByText := true, laidKinds := [.data], laidTests := true, laidLooks := .later }
def FindSelfCardSaid : Prop := Claim7.holds Tryd.pinned (.plain (OpenSpec.ofChange findSelfSpec)) findSelfCard

/-- THE TIED CARD OF 'joinerylaw19.FindCounts'. -/
def findCountsCard : Claim7 := { stood := { row := findCountsRow, standIns := [], harness := (true, "0c780141f8b9d071520d5227abd4a43ac2d6671a452680be632286bce2013187"), looks := true }, kinds := [], alts := [], laidByText := true, laidKinds := [.data], laidTests := true, laidLooks := .later }
def FindCountsCardSaid : Prop := Claim7.holds Tryd.pinned (.plain (OpenSpec.ofChange findCountsSpec)) findCountsCard

/-- THE TIED CARD OF 'joinerylaw13.NormForms'. -/
def normFormsCard : Claim7 := { stood := { row := normFormsRow, standIns := [], harness := (true, "0c780141f8b9d071520d5227abd4a43ac2d6671a452680be632286bce2013187"), looks := true }, kinds := [], alts := [], laidByText := true, laidKinds := [.data, .data], laidTests := true, laidLooks := .later }
def NormFormsCardSaid : Prop := Claim7.holds Tryd.pinned (.plain (OpenSpec.ofChange normFormsSpec)) normFormsCard

/-- THE TIED CARD OF 'joinerylaw13.NormFewest'. -/
def normFewestCard : Claim7 := { stood := { row := normFewestRow, standIns := [], harness := (true, "0c780141f8b9d071520d5227abd4a43ac2d6671a452680be632286bce2013187"), looks := true }, kinds := [], alts := [], laidByText := true, laidKinds := [.data, .data], laidTests := true, laidLooks := .later }
def NormFewestCardSaid : Prop := Claim7.holds Tryd.pinned (.plain (OpenSpec.ofChange normFewestSpec)) normFewestCard

/-- THE TIED CARD OF 'joinerylaw13.NormOrders'. -/
def normOrdersCard : Claim7 := { stood := { row := normOrdersRow, standIns := [], harness := (true, "0c780141f8b9d071520d5227abd4a43ac2d6671a452680be632286bce2013187"), looks := true }, kinds := [], alts := [], laidByText := true, laidKinds := [.data, .data], laidTests := true, laidLooks := .later }
def NormOrdersCardSaid : Prop := Claim7.holds Tryd.pinned (.plain (OpenSpec.ofChange normOrdersSpec)) normOrdersCard

/-- THE TIED CARD OF 'joinerylaw13.NormCounts'. -/
def normCountsCard : Claim7 := { stood := { row := normCountsRow, standIns := [], harness := (true, "0c780141f8b9d071520d5227abd4a43ac2d6671a452680be632286bce2013187"), looks := true }, kinds := [], alts := [], laidByText := true, laidKinds := [.data, .data], laidTests := true, laidLooks := .later }
def NormCountsCardSaid : Prop := Claim7.holds Tryd.pinned (.plain (OpenSpec.ofChange normCountsSpec)) normCountsCard

/-- THE TIED CARD OF 'joinerylaw13.NormBehind'. -/
def normBehindCard : Claim7 := { stood := { row := normBehindRow, standIns := [], harness := (true, "0c780141f8b9d071520d5227abd4a43ac2d6671a452680be632286bce2013187"), looks := true }, kinds := [], alts := [], laidByText := true, laidKinds := [.data, .data], laidTests := true, laidLooks := .later }
def NormBehindCardSaid : Prop := Claim7.holds Tryd.pinned (.plain (OpenSpec.ofChange normBehindSpec)) normBehindCard

/-- THE TIED CARD OF 'joinerylaw13.NormAhead'. -/
def normAheadCard : Claim7 := { stood := { row := normAheadRow, standIns := [], harness := (true, "0c780141f8b9d071520d5227abd4a43ac2d6671a452680be632286bce2013187"), looks := true }, kinds := [], alts := [], laidByText := true, laidKinds := [.data, .data], laidTests := true, laidLooks := .later }
def NormAheadCardSaid : Prop := Claim7.holds Tryd.pinned (.plain (OpenSpec.ofChange normAheadSpec)) normAheadCard

/-- THE TIED CARD OF 'joinerylaw13.NormOps'. -/
def normOpsCard : Claim7 := { stood := { row := normOpsRow, standIns := [], harness := (true, "0c780141f8b9d071520d5227abd4a43ac2d6671a452680be632286bce2013187"), looks := true }, kinds := [], alts := [], laidByText := true, laidKinds := [.data, .data], laidTests := true, laidLooks := .later }
def NormOpsCardSaid : Prop := Claim7.holds Tryd.pinned (.plain (OpenSpec.ofChange normOpsSpec)) normOpsCard

/-- THE TIED CARD OF 'joinerylaw23.AllocSame'. -/
def allocSameCard : Claim7 := { stood := { row := allocSameRow, standIns := [], harness := (true, "0c780141f8b9d071520d5227abd4a43ac2d6671a452680be632286bce2013187"), looks := true }, kinds := [], alts := [], laidByText := true, laidKinds := [.data, .data], laidTests := true, laidLooks := .later }
def AllocSameCardSaid : Prop := Claim7.holds Tryd.pinned (.plain (OpenSpec.ofChange allocSameSpec)) allocSameCard

/-- THE SECOND FORM's CARD OF 'joinerylaw23.AllocPuts'. -/
def allocPutsUptoCard : Claim7 := { stood := { row := allocPutsUptoRow, standIns := [], harness := (true, "0c780141f8b9d071520d5227abd4a43ac2d6671a452680be632286bce2013187"), looks := true }, kinds := [], alts := [], laidByText := true, laidKinds := [.data], laidTests := true, laidLooks := .later }
def AllocPutsUptoCardSaid : Prop := Claim7.holds Tryd.pinned (.plain (OpenSpec.upto allocPutsSpec)) allocPutsUptoCard

/-- THE SECOND FORM's CARD OF 'joinerylaw23.AllocCounts'. -/
def allocCountsUptoCard : Claim7 := { stood := { row := allocCountsUptoRow, standIns := [], harness := (true, "0c780141f8b9d071520d5227abd4a43ac2d6671a452680be632286bce2013187"), looks := true }, kinds := [], alts := [], laidByText := true, laidKinds := [.data], laidTests := true, laidLooks := .later }
def AllocCountsUptoCardSaid : Prop := Claim7.holds Tryd.pinned (.plain (OpenSpec.upto allocCountsSpec)) allocCountsUptoCard

/-- THE SECOND FORM's CARD OF 'joinerylaw23.AllocTwice'. -/
def allocTwiceUptoCard : Claim7 := { stood := { row := allocTwiceUptoRow, standIns := [], harness := (true, "0c780141f8b9d071520d5227abd4a43ac2d6671a452680be632286bce2013187"), looks := true }, kinds := [], alts := [], laidByText := true, laidKinds := [.data], laidTests := true, laidLooks := .later }
def AllocTwiceUptoCardSaid : Prop := Claim7.holds Tryd.pinned (.plain (OpenSpec.upto allocTwiceSpec)) allocTwiceUptoCard

/-- THE SECOND FORM's CARD OF 'joinerylaw20.ShrinkKeeps'. -/
def shrinkKeepsUptoCard : Claim7 := { stood := { row := shrinkKeepsUptoRow, standIns := [], harness := (true, "0c780141f8b9d071520d5227abd4a43ac2d6671a452680be632286bce2013187"), looks := true }, kinds := [], alts := [], laidByText := true, laidKinds := [.data], laidTests := true, laidLooks := .later }
def ShrinkKeepsUptoCardSaid : Prop := Claim7.holds Tryd.pinned (.plain (OpenSpec.upto shrinkKeepsSpec)) shrinkKeepsUptoCard

/-- THE SECOND FORM's CARD OF 'joinerylaw20.ShrinkLeast'. -/
def shrinkLeastUptoCard : Claim7 := { stood := { row := shrinkLeastUptoRow, standIns := [], harness := (true, "0c780141f8b9d071520d5227abd4a43ac2d6671a452680be632286bce2013187"), looks := true }, kinds := [], alts := [], laidByText := true, laidKinds := [.data], laidTests := true, laidLooks := .later }
def ShrinkLeastUptoCardSaid : Prop := Claim7.holds Tryd.pinned (.plain (OpenSpec.upto shrinkLeastSpec)) shrinkLeastUptoCard

/-- THE SECOND FORM's CARD OF 'joinerylaw20.ShrinkSwaps'. -/
def shrinkSwapsUptoCard : Claim7 := { stood := { row := shrinkSwapsUptoRow, standIns := [], harness := (true, "0c780141f8b9d071520d5227abd4a43ac2d6671a452680be632286bce2013187"), looks := true }, kinds := [], alts := [], laidByText := true, laidKinds := [.data], laidTests := true, laidLooks := .later }
def ShrinkSwapsUptoCardSaid : Prop := Claim7.holds Tryd.pinned (.plain (OpenSpec.upto shrinkSwapsSpec)) shrinkSwapsUptoCard

/-- THE SECOND FORM's CARD OF 'joinerylaw20.ShrinkSame'. -/
def shrinkSameUptoCard : Claim7 := { stood := { row := shrinkSameUptoRow, standIns := [], harness := (true, "0c780141f8b9d071520d5227abd4a43ac2d6671a452680be632286bce2013187"), looks := true }, kinds := [], alts := [], laidByText := true, laidKinds := [.data], laidTests := true, laidLooks := .later }
def ShrinkSameUptoCardSaid : Prop := Claim7.holds Tryd.pinned (.plain (OpenSpec.upto shrinkSameSpec)) shrinkSameUptoCard

/-- THE SECOND FORM's CARD OF 'joinerylaw19.FindStays'. -/
def findStaysUptoCard : Claim7 := { stood := { row := findStaysUptoRow, standIns := [], harness := (true, "0c780141f8b9d071520d5227abd4a43ac2d6671a452680be632286bce2013187"), looks := true }, kinds := [], alts := [], laidByText := true, laidKinds := [.data], laidTests := true, laidLooks := .later }
def FindStaysUptoCardSaid : Prop := Claim7.holds Tryd.pinned (.plain (OpenSpec.upto findStaysSpec)) findStaysUptoCard

/-- THE SECOND FORM's CARD OF 'joinerylaw19.FindFirst'. -/
def findFirstUptoCard : Claim7 := { stood := { row := findFirstUptoRow, standIns := [], harness := (true, "0c780141f8b9d071520d5227abd4a43ac2d6671a452680be632286bce2013187"), looks := true }, kinds := [], alts := [], laidByText := true, laidKinds := [.data], laidTests := true, laidLooks := .later }
def FindFirstUptoCardSaid : Prop := Claim7.holds Tryd.pinned (.plain (OpenSpec.upto findFirstSpec)) findFirstUptoCard

/-- THE SECOND FORM's CARD OF 'joinerylaw19.FindSelf'. -/
def findSelfUptoCard : Claim7 := { stood := { row := findSelfUptoRow, standIns := [], harness := (true, "0c780141f8b9d071520d5227abd4a43ac2d6671a452680be632286bce2013187"), looks := true }, kinds := [], alts := [], laidByText := true, laidKinds := [.data], laidTests := true, laidLooks := .later }
def FindSelfUptoCardSaid : Prop := Claim7.holds Tryd.pinned (.plain (OpenSpec.upto findSelfSpec)) findSelfUptoCard

/-- THE SECOND FORM's CARD OF 'joinerylaw19.FindCounts'. -/
def findCountsUptoCard : Claim7 := { stood := { row := findCountsUptoRow, standIns := [], harness := (true, "0c780141f8b9d071520d5227abd4a43ac2d6671a452680be632286bce2013187"), looks := true }, kinds := [], alts := [], laidByText := true, laidKinds := [.data], laidTests := true, laidLooks := .later }
def FindCountsUptoCardSaid : Prop := Claim7.holds Tryd.pinned (.plain (OpenSpec.upto findCountsSpec)) findCountsUptoCard

/-- THE SECOND FORM's CARD OF 'joinerylaw13.NormForms'. -/
def normFormsUptoCard : Claim7 := { stood := { row := normFormsUptoRow, standIns := [], harness := (true, "0c780141f8b9d071520d5227abd4a43ac2d6671a452680be632286bce2013187"), looks := true }, kinds := [], alts := [], laidByText := true, laidKinds := [.data, .data], laidTests := true, laidLooks := .later }
def NormFormsUptoCardSaid : Prop := Claim7.holds Tryd.pinned (.plain (OpenSpec.upto normFormsSpec)) normFormsUptoCard

/-- THE SECOND FORM's CARD OF 'joinerylaw13.NormFewest'. -/
def normFewestUptoCard : Claim7 := { stood := { row := normFewestUptoRow, standIns := [], harness := (true, "0c780141f8b9d071520d5227abd4a43ac2d6671a452680be632286bce2013187"), looks := true }, kinds := [], alts := [], laidByText := true, laidKinds := [.data, .data], laidTests := true, laidLooks := .later }
def NormFewestUptoCardSaid : Prop := Claim7.holds Tryd.pinned (.plain (OpenSpec.upto normFewestSpec)) normFewestUptoCard

/-- THE SECOND FORM's CARD OF 'joinerylaw13.NormOrders'. -/
def normOrdersUptoCard : Claim7 := { stood := { row := normOrdersUptoRow, standIns := [], harness := (true, "0c780141f8b9d071520d5227abd4a43ac2d6671a452680be632286bce2013187"), looks := true }, kinds := [], alts := [], laidByText := true, laidKinds := [.data, .data], laidTests := true, laidLooks := .later }
def NormOrdersUptoCardSaid : Prop := Claim7.holds Tryd.pinned (.plain (OpenSpec.upto normOrdersSpec)) normOrdersUptoCard

/-- THE SECOND FORM's CARD OF 'joinerylaw13.NormCounts'. -/
def normCountsUptoCard : Claim7 := { stood := { row := normCountsUptoRow, standIns := [], harness := (true, "0c780141f8b9d071520d5227abd4a43ac2d6671a452680be632286bce2013187"), looks := true }, kinds := [], alts := [], laidByText := true, laidKinds := [.data, .data], laidTests := true, laidLooks := .later }
def NormCountsUptoCardSaid : Prop := Claim7.holds Tryd.pinned (.plain (OpenSpec.upto normCountsSpec)) normCountsUptoCard

/-- THE SECOND FORM's CARD OF 'joinerylaw13.NormBehind'. -/
def normBehindUptoCard : Claim7 := { stood := { row := normBehindUptoRow, standIns := [], harness := (true, "0c780141f8b9d071520d5227abd4a43ac2d6671a452680be632286bce2013187"), looks := true }, kinds := [], alts := [], laidByText := true, laidKinds := [.data, .data], laidTests := true, laidLooks := .later }
def NormBehindUptoCardSaid : Prop := Claim7.holds Tryd.pinned (.plain (OpenSpec.upto normBehindSpec)) normBehindUptoCard

/-- THE SECOND FORM's CARD OF 'joinerylaw13.NormAhead'. -/
def normAheadUptoCard : Claim7 := { stood := { row := normAheadUptoRow, standIns := [], harness := (true, "0c780141f8b9d071520d5227abd4a43ac2d6671a452680be632286bce2013187"), looks := true }, kinds := [], alts := [], laidByText := true, laidKinds := [.data, .data], laidTests := true, laidLooks := .later }
def NormAheadUptoCardSaid : Prop := Claim7.holds Tryd.pinned (.plain (OpenSpec.upto normAheadSpec)) normAheadUptoCard

/-- THE SECOND FORM's CARD OF 'joinerylaw13.NormOps'. -/
def normOpsUptoCard : Claim7 := { stood := { row := normOpsUptoRow, standIns := [], harness := (true, "0c780141f8b9d071520d5227abd4a43ac2d6671a452680be632286bce2013187"), looks := true }, kinds := [], alts := [], laidByText := true, laidKinds := [.data, .data], laidTests := true, laidLooks := .later }
def NormOpsUptoCardSaid : Prop := Claim7.holds Tryd.pinned (.plain (OpenSpec.upto normOpsSpec)) normOpsUptoCard

/-- THE SECOND FORM's CARD OF 'joinerylaw23.AllocSame'. -/
def allocSameUptoCard : Claim7 := { stood := { row := allocSameUptoRow, standIns := [], harness := (true, "0c780141f8b9d071520d5227abd4a43ac2d6671a452680be632286bce2013187"), looks := true }, kinds := [], alts := [], laidByText := true, laidKinds := [.data, .data], laidTests := true, laidLooks := .later }
def AllocSameUptoCardSaid : Prop := Claim7.holds Tryd.pinned (.plain (OpenSpec.upto allocSameSpec)) allocSameUptoCard
end Rows
end Go.Proofs.YtfeokfaccaenhaaDoor
