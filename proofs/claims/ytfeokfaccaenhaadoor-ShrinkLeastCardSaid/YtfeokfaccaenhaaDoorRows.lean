/-
  NARROWER THAN 'FOR EVERY INPUT', by the rows' own cells (each row's printed sentence says how): AllocPuts: laid · AllocCounts: laid · AllocTwice: laid · ShrinkKeeps: laid · ShrinkLeast: laid · ShrinkSwaps: laid · ShrinkSame: laid · FindStays: laid · FindFirst: laid · FindSelf: laid · FindCounts: laid · NormForms: laid · NormFewest: laid · NormOrders: laid · NormCounts: laid · NormBehind: laid · NormAhead: laid · NormOps: laid · AllocSame: laid.
  DERIVED. THE GIVEN ROWS OF THIS SEAT. 19 by the template 'for every input the law returns true; each argument reads behind the call as it read before'; 0 by the template 'total and deterministic' (their statements: YtfeokfaccaenhaaDoorTotals.lean).
  GIVEN WITH THE SEED: the statements are not yours to turn. If you find one false, say at which input.
  Laid BY PROGRAM, IN A SANDBOX (cutbox-rows.mjs): the forced cells as the released guide's own fill.sh prints them over the translation e52e05f03fbf57e6… (all of the seat's roots in one cut). By AI agents, Wed Nov 11 2026. No macro, syntax, notation, axiom, sorry.
-/
import Derived.Test.YtfeokfaccaenhaaDoorChecked
import GoSem.Claim
import GoSem.ClaimJoined
import GoSem.ClaimMapViews
import Derived.JoinedTies
import Derived.KernelRfl
namespace Go.Proofs.YtfeokfaccaenhaaDoor
/- THE CELL 'sum', in the pinned program and in every row, IS THE sha256 OF THE DUMP (.gsa) THAT YtfeokfaccaenhaaDoorProg.lean LOADS. Nothing in Lean hashes anything: it is a label: what it is worth is what the hold of that sum in a sandbox is worth. -/
noncomputable def Tryd.pinned : Pinned := { name := "ytfeokfaccaenhaadoor", sum := "e52e05f03fbf57e6d9cdea49a072b8cf640076dee21c24112ea5a970df20c27f", checked := Tryd.checked }
namespace Rows
def none {H : Type} : Left H := { results := [], args := [] }

/- WHAT THE LISTED PACKAGE-LEVEL VARIABLES READ AS WHEN THE CALL BEGINS. Each datum BY PROGRAM (the guide's laid-datum.mjs) off the statement by which the dump's own 'gosem.cut.vars' lays the variable. In a bare row this is a premise. The card (YtfeokfaccaenhaaDoorCards.lean) ties it to the program's text. -/
def laid_joinery_ins_shapes {H : Type} : DataW H := .agg [.agg [.lit (.string [99, 111, 110, 115, 116]), .lit (.string [100, 78])], .agg [.lit (.string [109, 111, 118]), .lit (.string [100, 97])], .agg [.lit (.string [115, 119, 97, 112]), .lit (.string [100, 97])], .agg [.lit (.string [97, 100, 100]), .lit (.string [68, 65, 66])], .agg [.lit (.string [115, 117, 98]), .lit (.string [68, 65, 66])], .agg [.lit (.string [109, 117, 108]), .lit (.string [68, 65, 66])], .agg [.lit (.string [100, 105, 118]), .lit (.string [68, 65, 66])], .agg [.lit (.string [97, 110, 100]), .lit (.string [68, 65, 66])], .agg [.lit (.string [111, 114]), .lit (.string [68, 65, 66])], .agg [.lit (.string [120, 111, 114]), .lit (.string [68, 65, 66])], .agg [.lit (.string [108, 101, 115, 115]), .lit (.string [68, 65, 66])], .agg [.lit (.string [115, 97, 109, 101]), .lit (.string [68, 65, 66])], .agg [.lit (.string [108, 111, 97, 100]), .lit (.string [68, 65])], .agg [.lit (.string [115, 116, 111, 114, 101]), .lit (.string [65, 66])], .agg [.lit (.string [99, 97, 108, 108]), .lit (.string [68, 65, 78])], .agg [.lit (.string [106, 117, 109, 112]), .lit (.string [84])], .agg [.lit (.string [122, 101, 114, 111]), .lit (.string [65, 84])], .agg [.lit (.string [114, 101, 116]), .lit (.string [65])]]
def laid_joinery_value_open {H : Type} : DataW H := .agg [.lit (.int .i64 (-1)), .lit (.int .i64 0)]

/-- 'joinerylaw23.AllocPuts': WHATEVER THE INPUT: true; the input reads as it did. -/
def allocPutsSpec : ChangeSpec := { name := "allocPuts", fn := fun _ => fun
  | [d1, d2, d3] => { results := [.lit (.bool true)], args := [d1, d2, d3] }
  | _ => none }
def allocPutsRow : OpenClaim := { program := "ytfeokfaccaenhaadoor", sum := "e52e05f03fbf57e6d9cdea49a072b8cf640076dee21c24112ea5a970df20c27f", func := "joinery/joinerylaw23.AllocPuts", spec := "allocPuts", unfollowed := true, recurses := true, named := ["joinery/ins.shapes"], plainKeys := false, apart := false, laid := [("joinery/ins.shapes", laid_joinery_ins_shapes)] }
def AllocPutsSaid : Prop := allocPutsRow.holds Tryd.pinned (OpenSpec.ofChange allocPutsSpec)

/-- ITS FALSE NEIGHBOUR: 'it returns false'. Refute it at one input. -/
def allocPutsWrong : ChangeSpec := { name := "allocPuts", fn := fun _ => fun
  | [d1, d2, d3] => { results := [.lit (.bool false)], args := [d1, d2, d3] }
  | _ => none }
def AllocPutsWrongFalsely : Prop := allocPutsRow.holds Tryd.pinned (OpenSpec.ofChange allocPutsWrong)

/-- 'joinerylaw23.AllocCounts': WHATEVER THE INPUT: true; the input reads as it did. -/
def allocCountsSpec : ChangeSpec := { name := "allocCounts", fn := fun _ => fun
  | [d1, d2, d3] => { results := [.lit (.bool true)], args := [d1, d2, d3] }
  | _ => none }
def allocCountsRow : OpenClaim := { program := "ytfeokfaccaenhaadoor", sum := "e52e05f03fbf57e6d9cdea49a072b8cf640076dee21c24112ea5a970df20c27f", func := "joinery/joinerylaw23.AllocCounts", spec := "allocCounts", unfollowed := true, recurses := true, named := ["joinery/ins.shapes"], plainKeys := false, apart := false, laid := [("joinery/ins.shapes", laid_joinery_ins_shapes)] }
def AllocCountsSaid : Prop := allocCountsRow.holds Tryd.pinned (OpenSpec.ofChange allocCountsSpec)

/-- ITS FALSE NEIGHBOUR: 'it returns false'. Refute it at one input. -/
def allocCountsWrong : ChangeSpec := { name := "allocCounts", fn := fun _ => fun
  | [d1, d2, d3] => { results := [.lit (.bool false)], args := [d1, d2, d3] }
  | _ => none }
def AllocCountsWrongFalsely : Prop := allocCountsRow.holds Tryd.pinned (OpenSpec.ofChange allocCountsWrong)

/-- 'joinerylaw23.AllocTwice': WHATEVER THE INPUT: true; the input reads as it did. -/
def allocTwiceSpec : ChangeSpec := { name := "allocTwice", fn := fun _ => fun
  | [d1, d2, d3] => { results := [.lit (.bool true)], args := [d1, d2, d3] }
  | _ => none }
def allocTwiceRow : OpenClaim := { program := "ytfeokfaccaenhaadoor", sum := "e52e05f03fbf57e6d9cdea49a072b8cf640076dee21c24112ea5a970df20c27f", func := "joinery/joinerylaw23.AllocTwice", spec := "allocTwice", unfollowed := true, recurses := true, named := ["joinery/ins.shapes"], plainKeys := false, apart := false, laid := [("joinery/ins.shapes", laid_joinery_ins_shapes)] }
def AllocTwiceSaid : Prop := allocTwiceRow.holds Tryd.pinned (OpenSpec.ofChange allocTwiceSpec)

/-- ITS FALSE NEIGHBOUR: 'it returns false'. Refute it at one input. -/
def allocTwiceWrong : ChangeSpec := { name := "allocTwice", fn := fun _ => fun
  | [d1, d2, d3] => { results := [.lit (.bool false)], args := [d1, d2, d3] }
  | _ => none }
def AllocTwiceWrongFalsely : Prop := allocTwiceRow.holds Tryd.pinned (OpenSpec.ofChange allocTwiceWrong)

/-- 'joinerylaw20.ShrinkKeeps': WHATEVER THE INPUT: true; the input reads as it did. -/
def shrinkKeepsSpec : ChangeSpec := { name := "shrinkKeeps", fn := fun _ => fun
  | [d1, d2, d3] => { results := [.lit (.bool true)], args := [d1, d2, d3] }
  | _ => none }
def shrinkKeepsRow : OpenClaim := { program := "ytfeokfaccaenhaadoor", sum := "e52e05f03fbf57e6d9cdea49a072b8cf640076dee21c24112ea5a970df20c27f", func := "joinery/joinerylaw20.ShrinkKeeps", spec := "shrinkKeeps", unfollowed := true, recurses := true, named := ["joinery/ins.shapes"], plainKeys := false, apart := false, laid := [("joinery/ins.shapes", laid_joinery_ins_shapes)] }
def ShrinkKeepsSaid : Prop := shrinkKeepsRow.holds Tryd.pinned (OpenSpec.ofChange shrinkKeepsSpec)

/-- ITS FALSE NEIGHBOUR: 'it returns false'. Refute it at one input. -/
def shrinkKeepsWrong : ChangeSpec := { name := "shrinkKeeps", fn := fun _ => fun
  | [d1, d2, d3] => { results := [.lit (.bool false)], args := [d1, d2, d3] }
  | _ => none }
def ShrinkKeepsWrongFalsely : Prop := shrinkKeepsRow.holds Tryd.pinned (OpenSpec.ofChange shrinkKeepsWrong)

/-- 'joinerylaw20.ShrinkLeast': WHATEVER THE INPUT: true; the input reads as it did. -/
def shrinkLeastSpec : ChangeSpec := { name := "shrinkLeast", fn := fun _ => fun
  | [d1, d2, d3, d4, d5] => { results := [.lit (.bool true)], args := [d1, d2, d3, d4, d5] }
  | _ => none }
def shrinkLeastRow : OpenClaim := { program := "ytfeokfaccaenhaadoor", sum := "e52e05f03fbf57e6d9cdea49a072b8cf640076dee21c24112ea5a970df20c27f", func := "joinery/joinerylaw20.ShrinkLeast", spec := "shrinkLeast", unfollowed := true, recurses := true, named := ["joinery/ins.shapes"], plainKeys := false, apart := false, laid := [("joinery/ins.shapes", laid_joinery_ins_shapes)] }
def ShrinkLeastSaid : Prop := shrinkLeastRow.holds Tryd.pinned (OpenSpec.ofChange shrinkLeastSpec)

/-- ITS FALSE NEIGHBOUR: 'it returns false'. Refute it at one input. -/
def shrinkLeastWrong : ChangeSpec := { name := "shrinkLeast", fn := fun _ => fun
  | [d1, d2, d3, d4, d5] => { results := [.lit (.bool false)], args := [d1, d2, d3, d4, d5] }
  | _ => none }
def ShrinkLeastWrongFalsely : Prop := shrinkLeastRow.holds Tryd.pinned (OpenSpec.ofChange shrinkLeastWrong)

/-- 'joinerylaw20.ShrinkSwaps': WHATEVER THE INPUT: true; the input reads as it did. -/
def shrinkSwapsSpec : ChangeSpec := { name := "shrinkSwaps", fn := fun _ => fun
  | [d1, d2, d3] => { results := [.lit (.bool true)], args := [d1, d2, d3] }
  | _ => none }
def shrinkSwapsRow : OpenClaim := { program := "ytfeokfaccaenhaadoor", sum := "e52e05f03fbf57e6d9cdea49a072b8cf640076dee21c24112ea5a970df20c27f", func := "joinery/joinerylaw20.ShrinkSwaps", spec := "shrinkSwaps", unfollowed := true, recurses := true, named := ["joinery/ins.shapes"], plainKeys := false, apart := false, laid := [("joinery/ins.shapes", laid_joinery_ins_shapes)] }
def ShrinkSwapsSaid : Prop := shrinkSwapsRow.holds Tryd.pinned (OpenSpec.ofChange shrinkSwapsSpec)

/-- ITS FALSE NEIGHBOUR: 'it returns false'. Refute it at one input. -/
def shrinkSwapsWrong : ChangeSpec := { name := "shrinkSwaps", fn := fun _ => fun
  | [d1, d2, d3] => { results := [.lit (.bool false)], args := [d1, d2, d3] }
  | _ => none }
def ShrinkSwapsWrongFalsely : Prop := shrinkSwapsRow.holds Tryd.pinned (OpenSpec.ofChange shrinkSwapsWrong)

/-- 'joinerylaw20.ShrinkSame': WHATEVER THE INPUT: true; the input reads as it did. -/
def shrinkSameSpec : ChangeSpec := { name := "shrinkSame", fn := fun _ => fun
  | [d1, d2] => { results := [.lit (.bool true)], args := [d1, d2] }
  | _ => none }
def shrinkSameRow : OpenClaim := { program := "ytfeokfaccaenhaadoor", sum := "e52e05f03fbf57e6d9cdea49a072b8cf640076dee21c24112ea5a970df20c27f", func := "joinery/joinerylaw20.ShrinkSame", spec := "shrinkSame", unfollowed := true, recurses := true, named := ["joinery/ins.shapes"], plainKeys := false, apart := false, laid := [("joinery/ins.shapes", laid_joinery_ins_shapes)] }
def ShrinkSameSaid : Prop := shrinkSameRow.holds Tryd.pinned (OpenSpec.ofChange shrinkSameSpec)

/-- ITS FALSE NEIGHBOUR: 'it returns false'. Refute it at one input. -/
def shrinkSameWrong : ChangeSpec := { name := "shrinkSame", fn := fun _ => fun
  | [d1, d2] => { results := [.lit (.bool false)], args := [d1, d2] }
  | _ => none }
def ShrinkSameWrongFalsely : Prop := shrinkSameRow.holds Tryd.pinned (OpenSpec.ofChange shrinkSameWrong)

/-- 'joinerylaw19.FindStays': WHATEVER THE INPUT: true; the input reads as it did. -/
def findStaysSpec : ChangeSpec := { name := "findStays", fn := fun _ => fun
  | [d1, d2, d3, d4] => { results := [.lit (.bool true)], args := [d1, d2, d3, d4] }
  | _ => none }
def findStaysRow : OpenClaim := { program := "ytfeokfaccaenhaadoor", sum := "e52e05f03fbf57e6d9cdea49a072b8cf640076dee21c24112ea5a970df20c27f", func := "joinery/joinerylaw19.FindStays", spec := "findStays", unfollowed := true, recurses := true, named := ["joinery/ins.shapes"], plainKeys := false, apart := false, laid := [("joinery/ins.shapes", laid_joinery_ins_shapes)] }
def FindStaysSaid : Prop := findStaysRow.holds Tryd.pinned (OpenSpec.ofChange findStaysSpec)

/-- ITS FALSE NEIGHBOUR: 'it returns false'. Refute it at one input. -/
def findStaysWrong : ChangeSpec := { name := "findStays", fn := fun _ => fun
  | [d1, d2, d3, d4] => { results := [.lit (.bool false)], args := [d1, d2, d3, d4] }
  | _ => none }
def FindStaysWrongFalsely : Prop := findStaysRow.holds Tryd.pinned (OpenSpec.ofChange findStaysWrong)

/-- 'joinerylaw19.FindFirst': WHATEVER THE INPUT: true; the input reads as it did. -/
def findFirstSpec : ChangeSpec := { name := "findFirst", fn := fun _ => fun
  | [d1, d2, d3] => { results := [.lit (.bool true)], args := [d1, d2, d3] }
  | _ => none }
def findFirstRow : OpenClaim := { program := "ytfeokfaccaenhaadoor", sum := "e52e05f03fbf57e6d9cdea49a072b8cf640076dee21c24112ea5a970df20c27f", func := "joinery/joinerylaw19.FindFirst", spec := "findFirst", unfollowed := true, recurses := true, named := ["joinery/ins.shapes"], plainKeys := false, apart := false, laid := [("joinery/ins.shapes", laid_joinery_ins_shapes)] }
def FindFirstSaid : Prop := findFirstRow.holds Tryd.pinned (OpenSpec.ofChange findFirstSpec)

/-- ITS FALSE NEIGHBOUR: 'it returns false'. Refute it at one input. -/
def findFirstWrong : ChangeSpec := { name := "findFirst", fn := fun _ => fun
  | [d1, d2, d3] => { results := [.lit (.bool false)], args := [d1, d2, d3] }
  | _ => none }
def FindFirstWrongFalsely : Prop := findFirstRow.holds Tryd.pinned (OpenSpec.ofChange findFirstWrong)

/-- 'joinerylaw19.FindSelf': WHATEVER THE INPUT: true; the input reads as it did. -/
def findSelfSpec : ChangeSpec := { name := "findSelf", fn := fun _ => fun
  | [d1, d2] => { results := [.lit (.bool true)], args := [d1, d2] }
  | _ => none }
def findSelfRow : OpenClaim := { program := "ytfeokfaccaenhaadoor", sum := "e52e05f03fbf57e6d9cdea49a072b8cf640076dee21c24112ea5a970df20c27f", func := "joinery/joinerylaw19.FindSelf", spec := "findSelf", unfollowed := true, recurses := true, named := ["joinery/ins.shapes"], plainKeys := false, apart := false, laid := [("joinery/ins.shapes", laid_joinery_ins_shapes)] }
def FindSelfSaid : Prop := findSelfRow.holds Tryd.pinned (OpenSpec.ofChange findSelfSpec)

/-- ITS FALSE NEIGHBOUR: 'it returns false'. Refute it at one input. -/
def findSelfWrong : ChangeSpec := { name := "findSelf", fn := fun _ => fun
  | [d1, d2] => { results := [.lit (.bool false)], args := [d1, d2] }
  | _ => none }
def FindSelfWrongFalsely : Prop := findSelfRow.holds Tryd.pinned (OpenSpec.ofChange findSelfWrong)

/-- 'joinerylaw19.FindCounts': WHATEVER THE INPUT: true; the input reads as it did. -/
def findCountsSpec : ChangeSpec := { name := "findCounts", fn := fun _ => fun
  | [d1, d2, d3] => { results := [.lit (.bool true)], args := [d1, d2, d3] }
  | _ => none }
def findCountsRow : OpenClaim := { program := "ytfeokfaccaenhaadoor", sum := "e52e05f03fbf57e6d9cdea49a072b8cf640076dee21c24112ea5a970df20c27f", func := "joinery/joinerylaw19.FindCounts", spec := "findCounts", unfollowed := true, recurses := true, named := ["joinery/ins.shapes"], plainKeys := false, apart := false, laid := [("joinery/ins.shapes", laid_joinery_ins_shapes)] }
def FindCountsSaid : Prop := findCountsRow.holds Tryd.pinned (OpenSpec.ofChange findCountsSpec)

/-- ITS FALSE NEIGHBOUR: 'it returns false'. Refute it at one input. -/
def findCountsWrong : ChangeSpec := { name := "findCounts", fn := fun _ => fun
  | [d1, d2, d3] => { results := [.lit (.bool false)], args := [d1, d2, d3] }
  | _ => none }
def FindCountsWrongFalsely : Prop := findCountsRow.holds Tryd.pinned (OpenSpec.ofChange findCountsWrong)

/-- 'joinerylaw13.NormForms': WHATEVER THE INPUT: true; the input reads as it did. -/
def normFormsSpec : ChangeSpec := { name := "normForms", fn := fun _ => fun
  | [d] => { results := [.lit (.bool true)], args := [d] }
  | _ => none }
def normFormsRow : OpenClaim := { program := "ytfeokfaccaenhaadoor", sum := "e52e05f03fbf57e6d9cdea49a072b8cf640076dee21c24112ea5a970df20c27f", func := "joinery/joinerylaw13.NormForms", spec := "normForms", unfollowed := true, recurses := true, named := ["joinery/ins.shapes", "joinery/value.open"], plainKeys := false, apart := false, laid := [("joinery/ins.shapes", laid_joinery_ins_shapes), ("joinery/value.open", laid_joinery_value_open)] }
def NormFormsSaid : Prop := normFormsRow.holds Tryd.pinned (OpenSpec.ofChange normFormsSpec)

/-- ITS FALSE NEIGHBOUR: 'it returns false'. Refute it at one input. -/
def normFormsWrong : ChangeSpec := { name := "normForms", fn := fun _ => fun
  | [d] => { results := [.lit (.bool false)], args := [d] }
  | _ => none }
def NormFormsWrongFalsely : Prop := normFormsRow.holds Tryd.pinned (OpenSpec.ofChange normFormsWrong)

/-- 'joinerylaw13.NormFewest': WHATEVER THE INPUT: true; the input reads as it did. -/
def normFewestSpec : ChangeSpec := { name := "normFewest", fn := fun _ => fun
  | [d] => { results := [.lit (.bool true)], args := [d] }
  | _ => none }
def normFewestRow : OpenClaim := { program := "ytfeokfaccaenhaadoor", sum := "e52e05f03fbf57e6d9cdea49a072b8cf640076dee21c24112ea5a970df20c27f", func := "joinery/joinerylaw13.NormFewest", spec := "normFewest", unfollowed := true, recurses := true, named := ["joinery/ins.shapes", "joinery/value.open"], plainKeys := false, apart := false, laid := [("joinery/ins.shapes", laid_joinery_ins_shapes), ("joinery/value.open", laid_joinery_value_open)] }
def NormFewestSaid : Prop := normFewestRow.holds Tryd.pinned (OpenSpec.ofChange normFewestSpec)

/-- ITS FALSE NEIGHBOUR: 'it returns false'. Refute it at one input. -/
def normFewestWrong : ChangeSpec := { name := "normFewest", fn := fun _ => fun
  | [d] => { results := [.lit (.bool false)], args := [d] }
  | _ => none }
def NormFewestWrongFalsely : Prop := normFewestRow.holds Tryd.pinned (OpenSpec.ofChange normFewestWrong)

/-- 'joinerylaw13.NormOrders': WHATEVER THE INPUT: true; the input reads as it did. -/
def normOrdersSpec : ChangeSpec := { name := "normOrders", fn := fun _ => fun
  | [d1, d2] => { results := [.lit (.bool true)], args := [d1, d2] }
  | _ => none }
def normOrdersRow : OpenClaim := { program := "ytfeokfaccaenhaadoor", sum := "e52e05f03fbf57e6d9cdea49a072b8cf640076dee21c24112ea5a970df20c27f", func := "joinery/joinerylaw13.NormOrders", spec := "normOrders", unfollowed := true, recurses := true, named := ["joinery/ins.shapes", "joinery/value.open"], plainKeys := false, apart := false, laid := [("joinery/ins.shapes", laid_joinery_ins_shapes), ("joinery/value.open", laid_joinery_value_open)] }
def NormOrdersSaid : Prop := normOrdersRow.holds Tryd.pinned (OpenSpec.ofChange normOrdersSpec)

/-- ITS FALSE NEIGHBOUR: 'it returns false'. Refute it at one input. -/
def normOrdersWrong : ChangeSpec := { name := "normOrders", fn := fun _ => fun
  | [d1, d2] => { results := [.lit (.bool false)], args := [d1, d2] }
  | _ => none }
def NormOrdersWrongFalsely : Prop := normOrdersRow.holds Tryd.pinned (OpenSpec.ofChange normOrdersWrong)

/-- 'joinerylaw13.NormCounts': WHATEVER THE INPUT: true; the input reads as it did. -/
def normCountsSpec : ChangeSpec := { name := "normCounts", fn := fun _ => fun
  | [d] => { results := [.lit (.bool true)], args := [d] }
  | _ => none }
def normCountsRow : OpenClaim := { program := "ytfeokfaccaenhaadoor", sum := "e52e05f03fbf57e6d9cdea49a072b8cf640076dee21c24112ea5a970df20c27f", func := "joinery/joinerylaw13.NormCounts", spec := "normCounts", unfollowed := true, recurses := true, named := ["joinery/ins.shapes", "joinery/value.open"], plainKeys := false, apart := false, laid := [("joinery/ins.shapes", laid_joinery_ins_shapes), ("joinery/value.open", laid_joinery_value_open)] }
def NormCountsSaid : Prop := normCountsRow.holds Tryd.pinned (OpenSpec.ofChange normCountsSpec)

/-- ITS FALSE NEIGHBOUR: 'it returns false'. Refute it at one input. -/
def normCountsWrong : ChangeSpec := { name := "normCounts", fn := fun _ => fun
  | [d] => { results := [.lit (.bool false)], args := [d] }
  | _ => none }
def NormCountsWrongFalsely : Prop := normCountsRow.holds Tryd.pinned (OpenSpec.ofChange normCountsWrong)

/-- 'joinerylaw13.NormBehind': WHATEVER THE INPUT: true; the input reads as it did. -/
def normBehindSpec : ChangeSpec := { name := "normBehind", fn := fun _ => fun
  | [d1, d2] => { results := [.lit (.bool true)], args := [d1, d2] }
  | _ => none }
def normBehindRow : OpenClaim := { program := "ytfeokfaccaenhaadoor", sum := "e52e05f03fbf57e6d9cdea49a072b8cf640076dee21c24112ea5a970df20c27f", func := "joinery/joinerylaw13.NormBehind", spec := "normBehind", unfollowed := true, recurses := true, named := ["joinery/ins.shapes", "joinery/value.open"], plainKeys := false, apart := false, laid := [("joinery/ins.shapes", laid_joinery_ins_shapes), ("joinery/value.open", laid_joinery_value_open)] }
def NormBehindSaid : Prop := normBehindRow.holds Tryd.pinned (OpenSpec.ofChange normBehindSpec)

/-- ITS FALSE NEIGHBOUR: 'it returns false'. Refute it at one input. -/
def normBehindWrong : ChangeSpec := { name := "normBehind", fn := fun _ => fun
  | [d1, d2] => { results := [.lit (.bool false)], args := [d1, d2] }
  | _ => none }
def NormBehindWrongFalsely : Prop := normBehindRow.holds Tryd.pinned (OpenSpec.ofChange normBehindWrong)

/-- 'joinerylaw13.NormAhead': WHATEVER THE INPUT: true; the input reads as it did. -/
def normAheadSpec : ChangeSpec := { name := "normAhead", fn := fun _ => fun
  | [d1, d2] => { results := [.lit (.bool true)], args := [d1, d2] }
  | _ => none }
def normAheadRow : OpenClaim := { program := "ytfeokfaccaenhaadoor", sum := "e52e05f03fbf57e6d9cdea49a072b8cf640076dee21c24112ea5a970df20c27f", func := "joinery/joinerylaw13.NormAhead", spec := "normAhead", unfollowed := true, recurses := true, named := ["joinery/ins.shapes", "joinery/value.open"], plainKeys := false, apart := false, laid := [("joinery/ins.shapes", laid_joinery_ins_shapes), ("joinery/value.open", laid_joinery_value_open)] }
def NormAheadSaid : Prop := normAheadRow.holds Tryd.pinned (OpenSpec.ofChange normAheadSpec)

/-- ITS FALSE NEIGHBOUR: 'it returns false'. Refute it at one input. -/
def normAheadWrong : ChangeSpec := { name := "normAhead", fn := fun _ => fun
  | [d1, d2] => { results := [.lit (.bool false)], args := [d1, d2] }
  | _ => none }
def NormAheadWrongFalsely : Prop := normAheadRow.holds Tryd.pinned (OpenSpec.ofChange normAheadWrong)

/-- 'joinerylaw13.NormOps': WHATEVER THE INPUT: true; the input reads as it did. -/
def normOpsSpec : ChangeSpec := { name := "normOps", fn := fun _ => fun
  | [d] => { results := [.lit (.bool true)], args := [d] }
  | _ => none }
def normOpsRow : OpenClaim := { program := "ytfeokfaccaenhaadoor", sum := "e52e05f03fbf57e6d9cdea49a072b8cf640076dee21c24112ea5a970df20c27f", func := "joinery/joinerylaw13.NormOps", spec := "normOps", unfollowed := true, recurses := true, named := ["joinery/ins.shapes", "joinery/value.open"], plainKeys := false, apart := false, laid := [("joinery/ins.shapes", laid_joinery_ins_shapes), ("joinery/value.open", laid_joinery_value_open)] }
def NormOpsSaid : Prop := normOpsRow.holds Tryd.pinned (OpenSpec.ofChange normOpsSpec)

/-- ITS FALSE NEIGHBOUR: 'it returns false'. Refute it at one input. -/
def normOpsWrong : ChangeSpec := { name := "normOps", fn := fun _ => fun
  | [d] => { results := [.lit (.bool false)], args := [d] }
  | _ => none }
def NormOpsWrongFalsely : Prop := normOpsRow.holds Tryd.pinned (OpenSpec.ofChange normOpsWrong)

/-- 'joinerylaw23.AllocSame': WHATEVER THE INPUT: true; the input reads as it did. -/
def allocSameSpec : ChangeSpec := { name := "allocSame", fn := fun _ => fun
  | [d1, d2] => { results := [.lit (.bool true)], args := [d1, d2] }
  | _ => none }
def allocSameRow : OpenClaim := { program := "ytfeokfaccaenhaadoor", sum := "e52e05f03fbf57e6d9cdea49a072b8cf640076dee21c24112ea5a970df20c27f", func := "joinery/joinerylaw23.AllocSame", spec := "allocSame", unfollowed := true, recurses := true, named := ["joinery/ins.shapes", "joinery/value.open"], plainKeys := false, apart := false, laid := [("joinery/ins.shapes", laid_joinery_ins_shapes), ("joinery/value.open", laid_joinery_value_open)] }
def AllocSameSaid : Prop := allocSameRow.holds Tryd.pinned (OpenSpec.ofChange allocSameSpec)

/-- ITS FALSE NEIGHBOUR: 'it returns false'. Refute it at one input. -/
def allocSameWrong : ChangeSpec := { name := "allocSame", fn := fun _ => fun
  | [d1, d2] => { results := [.lit (.bool false)], args := [d1, d2] }
  | _ => none }
def AllocSameWrongFalsely : Prop := allocSameRow.holds Tryd.pinned (OpenSpec.ofChange allocSameWrong)

/- THE SECOND FORM. 'bulk': how many values and letters a reading holds, each counted each time it is reached (what is shared counts as often as it is met; a slice's spare places count too). A statement '..UptoSaid' is the law's where the arguments, and the package variables that the reading takes, are together of bulk at most 1048576: NARROWER than '..Said'. Prove '..Said' where nothing that the law and all that it calls make is longer than what came in: it says more and counts as full. Else prove '..UptoSaid'. A law counts once. -/
mutual
def uptoBulk {H : Type} : DataW H → Nat
  | .lit (.string bytes) => bytes.length + 1
  | .lit _ => 1
  | .nil => 1
  | .ptr d => uptoBulk d + 1
  | .slice elems spare => uptoBulkAll elems + uptoBulkAll spare + 1
  | .agg parts => uptoBulkAll parts + 1
  | .iface _ d => uptoBulk d + 1
  | .map entries => uptoBulkEntries entries + 1
  | .held _ => 1
def uptoBulkAll {H : Type} : List (DataW H) → Nat
  | [] => 0
  | d :: r => uptoBulk d + uptoBulkAll r
def uptoBulkEntries {H : Type} : List (Lit × DataW H) → Nat
  | [] => 0
  | x :: r => uptoBulkEntry x + uptoBulkEntries r
def uptoBulkEntry {H : Type} : Lit × DataW H → Nat
  | (.string bytes, d) => bytes.length + uptoBulk d + 1
  | (_, d) => uptoBulk d + 1
 end
def uptoSmall : (H : Type) → List (DataW H) → Bool := fun _ ds => decide (uptoBulkAll ds ≤ 1048576)
def OpenSpec.upto (s : _root_.Go.ChangeSpec) : _root_.Go.OpenSpec := { _root_.Go.OpenSpec.ofChange s with cond := some uptoSmall }

/-- 'joinerylaw23.AllocPuts', WHERE WHAT IT READS IS OF BULK AT MOST 1048576: true; the input reads as it did. -/
def allocPutsUptoRow : OpenClaim := { program := "ytfeokfaccaenhaadoor", sum := "e52e05f03fbf57e6d9cdea49a072b8cf640076dee21c24112ea5a970df20c27f", func := "joinery/joinerylaw23.AllocPuts", spec := "allocPuts", unfollowed := true, recurses := true, named := ["joinery/ins.shapes"], plainKeys := false, apart := false, laid := [("joinery/ins.shapes", laid_joinery_ins_shapes)], narrowed := true }
def AllocPutsUptoSaid : Prop := allocPutsUptoRow.holds Tryd.pinned (OpenSpec.upto allocPutsSpec)

/-- 'joinerylaw23.AllocCounts', WHERE WHAT IT READS IS OF BULK AT MOST 1048576: true; the input reads as it did. -/
def allocCountsUptoRow : OpenClaim := { program := "ytfeokfaccaenhaadoor", sum := "e52e05f03fbf57e6d9cdea49a072b8cf640076dee21c24112ea5a970df20c27f", func := "joinery/joinerylaw23.AllocCounts", spec := "allocCounts", unfollowed := true, recurses := true, named := ["joinery/ins.shapes"], plainKeys := false, apart := false, laid := [("joinery/ins.shapes", laid_joinery_ins_shapes)], narrowed := true }
def AllocCountsUptoSaid : Prop := allocCountsUptoRow.holds Tryd.pinned (OpenSpec.upto allocCountsSpec)

/-- 'joinerylaw23.AllocTwice', WHERE WHAT IT READS IS OF BULK AT MOST 1048576: true; the input reads as it did. -/
def allocTwiceUptoRow : OpenClaim := { program := "ytfeokfaccaenhaadoor", sum := "e52e05f03fbf57e6d9cdea49a072b8cf640076dee21c24112ea5a970df20c27f", func := "joinery/joinerylaw23.AllocTwice", spec := "allocTwice", unfollowed := true, recurses := true, named := ["joinery/ins.shapes"], plainKeys := false, apart := false, laid := [("joinery/ins.shapes", laid_joinery_ins_shapes)], narrowed := true }
def AllocTwiceUptoSaid : Prop := allocTwiceUptoRow.holds Tryd.pinned (OpenSpec.upto allocTwiceSpec)

/-- 'joinerylaw20.ShrinkKeeps', WHERE WHAT IT READS IS OF BULK AT MOST 1048576: true; the input reads as it did. -/
def shrinkKeepsUptoRow : OpenClaim := { program := "ytfeokfaccaenhaadoor", sum := "e52e05f03fbf57e6d9cdea49a072b8cf640076dee21c24112ea5a970df20c27f", func := "joinery/joinerylaw20.ShrinkKeeps", spec := "shrinkKeeps", unfollowed := true, recurses := true, named := ["joinery/ins.shapes"], plainKeys := false, apart := false, laid := [("joinery/ins.shapes", laid_joinery_ins_shapes)], narrowed := true }
def ShrinkKeepsUptoSaid : Prop := shrinkKeepsUptoRow.holds Tryd.pinned (OpenSpec.upto shrinkKeepsSpec)

/-- 'joinerylaw20.ShrinkLeast', WHERE WHAT IT READS IS OF BULK AT MOST 1048576: true; the input reads as it did. -/
def shrinkLeastUptoRow : OpenClaim := { program := "ytfeokfaccaenhaadoor", sum := "e52e05f03fbf57e6d9cdea49a072b8cf640076dee21c24112ea5a970df20c27f", func := "joinery/joinerylaw20.ShrinkLeast", spec := "shrinkLeast", unfollowed := true, recurses := true, named := ["joinery/ins.shapes"], plainKeys := false, apart := false, laid := [("joinery/ins.shapes", laid_joinery_ins_shapes)], narrowed := true }
def ShrinkLeastUptoSaid : Prop := shrinkLeastUptoRow.holds Tryd.pinned (OpenSpec.upto shrinkLeastSpec)

/-- 'joinerylaw20.ShrinkSwaps', WHERE WHAT IT READS IS OF BULK AT MOST 1048576: true; the input reads as it did. -/
def shrinkSwapsUptoRow : OpenClaim := { program := "ytfeokfaccaenhaadoor", sum := "e52e05f03fbf57e6d9cdea49a072b8cf640076dee21c24112ea5a970df20c27f", func := "joinery/joinerylaw20.ShrinkSwaps", spec := "shrinkSwaps", unfollowed := true, recurses := true, named := ["joinery/ins.shapes"], plainKeys := false, apart := false, laid := [("joinery/ins.shapes", laid_joinery_ins_shapes)], narrowed := true }
def ShrinkSwapsUptoSaid : Prop := shrinkSwapsUptoRow.holds Tryd.pinned (OpenSpec.upto shrinkSwapsSpec)

/-- 'joinerylaw20.ShrinkSame', WHERE WHAT IT READS IS OF BULK AT MOST 1048576: true; the input reads as it did. -/
def shrinkSameUptoRow : OpenClaim := { program := "ytfeokfaccaenhaadoor", sum := "e52e05f03fbf57e6d9cdea49a072b8cf640076dee21c24112ea5a970df20c27f", func := "joinery/joinerylaw20.ShrinkSame", spec := "shrinkSame", unfollowed := true, recurses := true, named := ["joinery/ins.shapes"], plainKeys := false, apart := false, laid := [("joinery/ins.shapes", laid_joinery_ins_shapes)], narrowed := true }
def ShrinkSameUptoSaid : Prop := shrinkSameUptoRow.holds Tryd.pinned (OpenSpec.upto shrinkSameSpec)

/-- 'joinerylaw19.FindStays', WHERE WHAT IT READS IS OF BULK AT MOST 1048576: true; the input reads as it did. -/
def findStaysUptoRow : OpenClaim := { program := "ytfeokfaccaenhaadoor", sum := "e52e05f03fbf57e6d9cdea49a072b8cf640076dee21c24112ea5a970df20c27f", func := "joinery/joinerylaw19.FindStays", spec := "findStays", unfollowed := true, recurses := true, named := ["joinery/ins.shapes"], plainKeys := false, apart := false, laid := [("joinery/ins.shapes", laid_joinery_ins_shapes)], narrowed := true }
def FindStaysUptoSaid : Prop := findStaysUptoRow.holds Tryd.pinned (OpenSpec.upto findStaysSpec)

/-- 'joinerylaw19.FindFirst', WHERE WHAT IT READS IS OF BULK AT MOST 1048576: true; the input reads as it did. -/
def findFirstUptoRow : OpenClaim := { program := "ytfeokfaccaenhaadoor", sum := "e52e05f03fbf57e6d9cdea49a072b8cf640076dee21c24112ea5a970df20c27f", func := "joinery/joinerylaw19.FindFirst", spec := "findFirst", unfollowed := true, recurses := true, named := ["joinery/ins.shapes"], plainKeys := false, apart := false, laid := [("joinery/ins.shapes", laid_joinery_ins_shapes)], narrowed := true }
def FindFirstUptoSaid : Prop := findFirstUptoRow.holds Tryd.pinned (OpenSpec.upto findFirstSpec)

/-- 'joinerylaw19.FindSelf', WHERE WHAT IT READS IS OF BULK AT MOST 1048576: true; the input reads as it did. -/
def findSelfUptoRow : OpenClaim := { program := "ytfeokfaccaenhaadoor", sum := "e52e05f03fbf57e6d9cdea49a072b8cf640076dee21c24112ea5a970df20c27f", func := "joinery/joinerylaw19.FindSelf", spec := "findSelf", unfollowed := true, recurses := true, named := ["joinery/ins.shapes"], plainKeys := false, apart := false, laid := [("joinery/ins.shapes", laid_joinery_ins_shapes)], narrowed := true }
def FindSelfUptoSaid : Prop := findSelfUptoRow.holds Tryd.pinned (OpenSpec.upto findSelfSpec)

/-- 'joinerylaw19.FindCounts', WHERE WHAT IT READS IS OF BULK AT MOST 1048576: true; the input reads as it did. -/
def findCountsUptoRow : OpenClaim := { program := "ytfeokfaccaenhaadoor", sum := "e52e05f03fbf57e6d9cdea49a072b8cf640076dee21c24112ea5a970df20c27f", func := "joinery/joinerylaw19.FindCounts", spec := "findCounts", unfollowed := true, recurses := true, named := ["joinery/ins.shapes"], plainKeys := false, apart := false, laid := [("joinery/ins.shapes", laid_joinery_ins_shapes)], narrowed := true }
def FindCountsUptoSaid : Prop := findCountsUptoRow.holds Tryd.pinned (OpenSpec.upto findCountsSpec)

/-- 'joinerylaw13.NormForms', WHERE WHAT IT READS IS OF BULK AT MOST 1048576: true; the input reads as it did. -/
def normFormsUptoRow : OpenClaim := { program := "ytfeokfaccaenhaadoor", sum := "e52e05f03fbf57e6d9cdea49a072b8cf640076dee21c24112ea5a970df20c27f", func := "joinery/joinerylaw13.NormForms", spec := "normForms", unfollowed := true, recurses := true, named := ["joinery/ins.shapes", "joinery/value.open"], plainKeys := false, apart := false, laid := [("joinery/ins.shapes", laid_joinery_ins_shapes), ("joinery/value.open", laid_joinery_value_open)], narrowed := true }
def NormFormsUptoSaid : Prop := normFormsUptoRow.holds Tryd.pinned (OpenSpec.upto normFormsSpec)

/-- 'joinerylaw13.NormFewest', WHERE WHAT IT READS IS OF BULK AT MOST 1048576: true; the input reads as it did. -/
def normFewestUptoRow : OpenClaim := { program := "ytfeokfaccaenhaadoor", sum := "e52e05f03fbf57e6d9cdea49a072b8cf640076dee21c24112ea5a970df20c27f", func := "joinery/joinerylaw13.NormFewest", spec := "normFewest", unfollowed := true, recurses := true, named := ["joinery/ins.shapes", "joinery/value.open"], plainKeys := false, apart := false, laid := [("joinery/ins.shapes", laid_joinery_ins_shapes), ("joinery/value.open", laid_joinery_value_open)], narrowed := true }
def NormFewestUptoSaid : Prop := normFewestUptoRow.holds Tryd.pinned (OpenSpec.upto normFewestSpec)

/-- 'joinerylaw13.NormOrders', WHERE WHAT IT READS IS OF BULK AT MOST 1048576: true; the input reads as it did. -/
def normOrdersUptoRow : OpenClaim := { program := "ytfeokfaccaenhaadoor", sum := "e52e05f03fbf57e6d9cdea49a072b8cf640076dee21c24112ea5a970df20c27f", func := "joinery/joinerylaw13.NormOrders", spec := "normOrders", unfollowed := true, recurses := true, named := ["joinery/ins.shapes", "joinery/value.open"], plainKeys := false, apart := false, laid := [("joinery/ins.shapes", laid_joinery_ins_shapes), ("joinery/value.open", laid_joinery_value_open)], narrowed := true }
def NormOrdersUptoSaid : Prop := normOrdersUptoRow.holds Tryd.pinned (OpenSpec.upto normOrdersSpec)

/-- 'joinerylaw13.NormCounts', WHERE WHAT IT READS IS OF BULK AT MOST 1048576: true; the input reads as it did. -/
def normCountsUptoRow : OpenClaim := { program := "ytfeokfaccaenhaadoor", sum := "e52e05f03fbf57e6d9cdea49a072b8cf640076dee21c24112ea5a970df20c27f", func := "joinery/joinerylaw13.NormCounts", spec := "normCounts", unfollowed := true, recurses := true, named := ["joinery/ins.shapes", "joinery/value.open"], plainKeys := false, apart := false, laid := [("joinery/ins.shapes", laid_joinery_ins_shapes), ("joinery/value.open", laid_joinery_value_open)], narrowed := true }
def NormCountsUptoSaid : Prop := normCountsUptoRow.holds Tryd.pinned (OpenSpec.upto normCountsSpec)

/-- 'joinerylaw13.NormBehind', WHERE WHAT IT READS IS OF BULK AT MOST 1048576: true; the input reads as it did. -/
def normBehindUptoRow : OpenClaim := { program := "ytfeokfaccaenhaadoor", sum := "e52e05f03fbf57e6d9cdea49a072b8cf640076dee21c24112ea5a970df20c27f", func := "joinery/joinerylaw13.NormBehind", spec := "normBehind", unfollowed := true, recurses := true, named := ["joinery/ins.shapes", "joinery/value.open"], plainKeys := false, apart := false, laid := [("joinery/ins.shapes", laid_joinery_ins_shapes), ("joinery/value.open", laid_joinery_value_open)], narrowed := true }
def NormBehindUptoSaid : Prop := normBehindUptoRow.holds Tryd.pinned (OpenSpec.upto normBehindSpec)

/-- 'joinerylaw13.NormAhead', WHERE WHAT IT READS IS OF BULK AT MOST 1048576: true; the input reads as it did. -/
def normAheadUptoRow : OpenClaim := { program := "ytfeokfaccaenhaadoor", sum := "e52e05f03fbf57e6d9cdea49a072b8cf640076dee21c24112ea5a970df20c27f", func := "joinery/joinerylaw13.NormAhead", spec := "normAhead", unfollowed := true, recurses := true, named := ["joinery/ins.shapes", "joinery/value.open"], plainKeys := false, apart := false, laid := [("joinery/ins.shapes", laid_joinery_ins_shapes), ("joinery/value.open", laid_joinery_value_open)], narrowed := true }
def NormAheadUptoSaid : Prop := normAheadUptoRow.holds Tryd.pinned (OpenSpec.upto normAheadSpec)

/-- 'joinerylaw13.NormOps', WHERE WHAT IT READS IS OF BULK AT MOST 1048576: true; the input reads as it did. -/
def normOpsUptoRow : OpenClaim := { program := "ytfeokfaccaenhaadoor", sum := "e52e05f03fbf57e6d9cdea49a072b8cf640076dee21c24112ea5a970df20c27f", func := "joinery/joinerylaw13.NormOps", spec := "normOps", unfollowed := true, recurses := true, named := ["joinery/ins.shapes", "joinery/value.open"], plainKeys := false, apart := false, laid := [("joinery/ins.shapes", laid_joinery_ins_shapes), ("joinery/value.open", laid_joinery_value_open)], narrowed := true }
def NormOpsUptoSaid : Prop := normOpsUptoRow.holds Tryd.pinned (OpenSpec.upto normOpsSpec)

/-- 'joinerylaw23.AllocSame', WHERE WHAT IT READS IS OF BULK AT MOST 1048576: true; the input reads as it did. -/
def allocSameUptoRow : OpenClaim := { program := "ytfeokfaccaenhaadoor", sum := "e52e05f03fbf57e6d9cdea49a072b8cf640076dee21c24112ea5a970df20c27f", func := "joinery/joinerylaw23.AllocSame", spec := "allocSame", unfollowed := true, recurses := true, named := ["joinery/ins.shapes", "joinery/value.open"], plainKeys := false, apart := false, laid := [("joinery/ins.shapes", laid_joinery_ins_shapes), ("joinery/value.open", laid_joinery_value_open)], narrowed := true }
def AllocSameUptoSaid : Prop := allocSameUptoRow.holds Tryd.pinned (OpenSpec.upto allocSameSpec)

end Rows
end Go.Proofs.YtfeokfaccaenhaaDoor
