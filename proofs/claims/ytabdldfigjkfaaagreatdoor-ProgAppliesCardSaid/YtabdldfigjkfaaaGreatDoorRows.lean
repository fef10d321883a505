/-
  NARROWER THAN 'FOR EVERY INPUT', by the rows' own cells (each row's printed sentence says how): OpReads: laid · OpBack: laid · ProgEffect: laid · ProgApplies: laid · ProgWhole: laid · TxnNeeds: laid · TxnSteps: laid · TxnView: laid · TxnTells: laid · TxnBetween: laid · TxnWrites: laid.
  DERIVED. THE GIVEN ROWS OF THIS SEAT. 11 by the template 'for every input the law returns true; each argument reads behind the call as it read before'; 0 by the template 'total and deterministic' (their statements: YtabdldfigjkfaaaGreatDoorTotals.lean).
  GIVEN WITH THE SEED: the statements are not yours to turn. If you find one false, say at which input.
  Laid BY PROGRAM, IN A SANDBOX (cutbox-rows.mjs): the forced cells as the released guide's own fill.sh prints them over the translation 4d4893dbaae6df55… (all of the seat's roots in one cut). By AI agents, Wed Nov 11 2026. No macro, syntax, notation, axiom, sorry.
-/
import Derived.Test.YtabdldfigjkfaaaGreatDoorChecked
import GoSem.PinnedTables
import GoSem.Claim
import GoSem.ClaimJoined
import GoSem.ClaimMapViews
import Derived.JoinedTies
import Derived.KernelRfl
namespace Go.Proofs.YtabdldfigjkfaaaGreatDoor
/- THE CELL 'sum', in the pinned program and in every row, IS THE sha256 OF THE DUMP (.gsa) THAT YtabdldfigjkfaaaGreatDoorProg.lean LOADS. Nothing in Lean hashes anything: it is a label: what it is worth is what the hold of that sum in a sandbox is worth. -/
noncomputable def Tryz.pinned : Pinned := { name := "ytabdldfigjkfaaagreatdoor", sum := "4d4893dbaae6df55ac7ee9fd62ab2a31212a5bf57078c1344716d9ad48ba245b", checked := Tryz.checked }
namespace Rows
def none {H : Type} : Left H := { results := [], args := [] }

/- WHAT THE LISTED PACKAGE-LEVEL VARIABLES READ AS WHEN THE CALL BEGINS. Each datum BY PROGRAM (the guide's laid-datum.mjs) off the statement by which the dump's own 'gosem.cut.vars' lays the variable. In a bare row this is a premise. The card (YtabdldfigjkfaaaGreatDoorCards.lean) ties it to the program's text. -/
def laid_unicode_utf8_acceptRanges {H : Type} : DataW H := .agg [.agg [.lit (.int .u8 128), .lit (.int .u8 191)], .agg [.lit (.int .u8 160), .lit (.int .u8 191)], .agg [.lit (.int .u8 128), .lit (.int .u8 159)], .agg [.lit (.int .u8 144), .lit (.int .u8 191)], .agg [.lit (.int .u8 128), .lit (.int .u8 143)], .agg [.lit (.int .u8 0), .lit (.int .u8 0)], .agg [.lit (.int .u8 0), .lit (.int .u8 0)], .agg [.lit (.int .u8 0), .lit (.int .u8 0)], .agg [.lit (.int .u8 0), .lit (.int .u8 0)], .agg [.lit (.int .u8 0), .lit (.int .u8 0)], .agg [.lit (.int .u8 0), .lit (.int .u8 0)], .agg [.lit (.int .u8 0), .lit (.int .u8 0)], .agg [.lit (.int .u8 0), .lit (.int .u8 0)], .agg [.lit (.int .u8 0), .lit (.int .u8 0)], .agg [.lit (.int .u8 0), .lit (.int .u8 0)], .agg [.lit (.int .u8 0), .lit (.int .u8 0)]]
/-- One of Go's own tables, pinned by name: the form's constant. -/
def laid_unicode_utf8_first : DataW Unit := Go.Pinned.utf8First

/-- 'ogivelaw15.OpReads': WHATEVER THE INPUT: true; the input reads as it did. -/
def opReadsSpec : ChangeSpec := { name := "opReads", fn := fun _ => fun
  | [d1, d2] => { results := [.lit (.bool true)], args := [d1, d2] }
  | _ => none }
def opReadsRow : OpenClaim := { program := "ytabdldfigjkfaaagreatdoor", sum := "4d4893dbaae6df55ac7ee9fd62ab2a31212a5bf57078c1344716d9ad48ba245b", func := "ogive/ogivelaw15.OpReads", spec := "opReads", inPlace := ["internal/bytealg.IndexByteString", "internal/bytealg.IndexString", "internal/abi.NoEscape", "internal/bytealg.abigen_runtime_cmpstring", "internal/bytealg.CountString", "internal/bytealg.MakeNoZero", "slices.overlaps[ogive/graph.Entry]"], unfollowed := true, recurses := true, named := ["internal/bytealg.MaxLen", "unicode/utf8.first", "unicode/utf8.acceptRanges"], plainKeys := false, apart := false, laid := [("unicode/utf8.acceptRanges", laid_unicode_utf8_acceptRanges), ("unicode/utf8.first", laid_unicode_utf8_first)] }
def OpReadsSaid : Prop := opReadsRow.holds Tryz.pinned (OpenSpec.ofChange opReadsSpec)

/-- ITS FALSE NEIGHBOUR: 'it returns false'. Refute it at one input. -/
def opReadsWrong : ChangeSpec := { name := "opReads", fn := fun _ => fun
  | [d1, d2] => { results := [.lit (.bool false)], args := [d1, d2] }
  | _ => none }
def OpReadsWrongFalsely : Prop := opReadsRow.holds Tryz.pinned (OpenSpec.ofChange opReadsWrong)

/-- 'ogivelaw15.OpBack': WHATEVER THE INPUT: true; the input reads as it did. -/
def opBackSpec : ChangeSpec := { name := "opBack", fn := fun _ => fun
  | [d1, d2] => { results := [.lit (.bool true)], args := [d1, d2] }
  | _ => none }
def opBackRow : OpenClaim := { program := "ytabdldfigjkfaaagreatdoor", sum := "4d4893dbaae6df55ac7ee9fd62ab2a31212a5bf57078c1344716d9ad48ba245b", func := "ogive/ogivelaw15.OpBack", spec := "opBack", inPlace := ["internal/bytealg.IndexByteString", "internal/bytealg.IndexString", "internal/abi.NoEscape", "internal/bytealg.abigen_runtime_cmpstring", "internal/bytealg.CountString", "internal/bytealg.MakeNoZero", "slices.overlaps[ogive/graph.Entry]"], unfollowed := true, recurses := true, named := ["internal/bytealg.MaxLen", "unicode/utf8.first", "unicode/utf8.acceptRanges"], plainKeys := false, apart := false, laid := [("unicode/utf8.acceptRanges", laid_unicode_utf8_acceptRanges), ("unicode/utf8.first", laid_unicode_utf8_first)] }
def OpBackSaid : Prop := opBackRow.holds Tryz.pinned (OpenSpec.ofChange opBackSpec)

/-- ITS FALSE NEIGHBOUR: 'it returns false'. Refute it at one input. -/
def opBackWrong : ChangeSpec := { name := "opBack", fn := fun _ => fun
  | [d1, d2] => { results := [.lit (.bool false)], args := [d1, d2] }
  | _ => none }
def OpBackWrongFalsely : Prop := opBackRow.holds Tryz.pinned (OpenSpec.ofChange opBackWrong)

/-- 'ogivelaw16.ProgEffect': WHATEVER THE INPUT: true; the input reads as it did. -/
def progEffectSpec : ChangeSpec := { name := "progEffect", fn := fun _ => fun
  | [d1, d2, d3] => { results := [.lit (.bool true)], args := [d1, d2, d3] }
  | _ => none }
def progEffectRow : OpenClaim := { program := "ytabdldfigjkfaaagreatdoor", sum := "4d4893dbaae6df55ac7ee9fd62ab2a31212a5bf57078c1344716d9ad48ba245b", func := "ogive/ogivelaw16.ProgEffect", spec := "progEffect", inPlace := ["maps.clone", "internal/bytealg.IndexByteString", "internal/bytealg.IndexString", "internal/abi.NoEscape", "internal/bytealg.abigen_runtime_cmpstring", "internal/bytealg.CountString", "internal/bytealg.MakeNoZero", "slices.overlaps[ogive/graph.Entry]"], unfollowed := true, recurses := true, named := ["internal/bytealg.MaxLen", "unicode/utf8.first", "unicode/utf8.acceptRanges"], plainKeys := false, apart := false, laid := [("unicode/utf8.acceptRanges", laid_unicode_utf8_acceptRanges), ("unicode/utf8.first", laid_unicode_utf8_first)] }
def ProgEffectSaid : Prop := progEffectRow.holds Tryz.pinned (OpenSpec.ofChange progEffectSpec)

/-- ITS FALSE NEIGHBOUR: 'it returns false'. Refute it at one input. -/
def progEffectWrong : ChangeSpec := { name := "progEffect", fn := fun _ => fun
  | [d1, d2, d3] => { results := [.lit (.bool false)], args := [d1, d2, d3] }
  | _ => none }
def ProgEffectWrongFalsely : Prop := progEffectRow.holds Tryz.pinned (OpenSpec.ofChange progEffectWrong)

/-- 'ogivelaw16.ProgApplies': WHATEVER THE INPUT: true; the input reads as it did. -/
def progAppliesSpec : ChangeSpec := { name := "progApplies", fn := fun _ => fun
  | [d1, d2] => { results := [.lit (.bool true)], args := [d1, d2] }
  | _ => none }
def progAppliesRow : OpenClaim := { program := "ytabdldfigjkfaaagreatdoor", sum := "4d4893dbaae6df55ac7ee9fd62ab2a31212a5bf57078c1344716d9ad48ba245b", func := "ogive/ogivelaw16.ProgApplies", spec := "progApplies", inPlace := ["maps.clone", "internal/bytealg.IndexByteString", "internal/bytealg.IndexString", "internal/abi.NoEscape", "internal/bytealg.abigen_runtime_cmpstring", "internal/bytealg.CountString", "internal/bytealg.MakeNoZero", "slices.overlaps[ogive/graph.Entry]"], unfollowed := true, recurses := true, named := ["internal/bytealg.MaxLen", "unicode/utf8.first", "unicode/utf8.acceptRanges"], plainKeys := false, apart := false, laid := [("unicode/utf8.acceptRanges", laid_unicode_utf8_acceptRanges), ("unicode/utf8.first", laid_unicode_utf8_first)] }
def ProgAppliesSaid : Prop := progAppliesRow.holds Tryz.pinned (OpenSpec.ofChange progAppliesSpec)

/-- ITS FALSE NEIGHBOUR: 'it returns false'. Refute it at one input. -/
def progAppliesWrong : ChangeSpec := { name := "progApplies", fn := fun _ => fun
  | [d1, d2] => { results := [.lit (.bool false)], args := [d1, d2] }
  | _ => none }
def ProgAppliesWrongFalsely : Prop := progAppliesRow.holds Tryz.pinned (OpenSpec.ofChange progAppliesWrong)

/-- 'ogivelaw16.ProgWhole': WHATEVER THE INPUT: true; the input reads as it did. -/
def progWholeSpec : ChangeSpec := { name := "progWhole", fn := fun _ => fun
  | [d1, d2, d3] => { results := [.lit (.bool true)], args := [d1, d2, d3] }
  | _ => none }
def progWholeRow : OpenClaim := { program := "ytabdldfigjkfaaagreatdoor", sum := "4d4893dbaae6df55ac7ee9fd62ab2a31212a5bf57078c1344716d9ad48ba245b", func := "ogive/ogivelaw16.ProgWhole", spec := "progWhole", inPlace := ["maps.clone", "internal/bytealg.IndexByteString", "internal/bytealg.IndexString", "internal/abi.NoEscape", "internal/bytealg.abigen_runtime_cmpstring", "internal/bytealg.CountString", "internal/bytealg.MakeNoZero", "slices.overlaps[ogive/graph.Entry]"], unfollowed := true, recurses := true, named := ["internal/bytealg.MaxLen", "unicode/utf8.first", "unicode/utf8.acceptRanges"], plainKeys := false, apart := false, laid := [("unicode/utf8.acceptRanges", laid_unicode_utf8_acceptRanges), ("unicode/utf8.first", laid_unicode_utf8_first)] }
def ProgWholeSaid : Prop := progWholeRow.holds Tryz.pinned (OpenSpec.ofChange progWholeSpec)

/-- ITS FALSE NEIGHBOUR: 'it returns false'. Refute it at one input. -/
def progWholeWrong : ChangeSpec := { name := "progWhole", fn := fun _ => fun
  | [d1, d2, d3] => { results := [.lit (.bool false)], args := [d1, d2, d3] }
  | _ => none }
def ProgWholeWrongFalsely : Prop := progWholeRow.holds Tryz.pinned (OpenSpec.ofChange progWholeWrong)

/-- 'ogivelaw17.TxnNeeds': WHATEVER THE INPUT: true; the input reads as it did. -/
def txnNeedsSpec : ChangeSpec := { name := "txnNeeds", fn := fun _ => fun
  | [d1, d2] => { results := [.lit (.bool true)], args := [d1, d2] }
  | _ => none }
def txnNeedsRow : OpenClaim := { program := "ytabdldfigjkfaaagreatdoor", sum := "4d4893dbaae6df55ac7ee9fd62ab2a31212a5bf57078c1344716d9ad48ba245b", func := "ogive/ogivelaw17.TxnNeeds", spec := "txnNeeds", inPlace := ["internal/bytealg.IndexByteString", "internal/bytealg.IndexString", "internal/abi.NoEscape", "internal/bytealg.abigen_runtime_cmpstring", "internal/bytealg.CountString", "internal/bytealg.MakeNoZero", "slices.overlaps[ogive/graph.Entry]"], unfollowed := true, recurses := true, named := ["internal/bytealg.MaxLen", "unicode/utf8.first", "unicode/utf8.acceptRanges"], plainKeys := false, apart := false, laid := [("unicode/utf8.acceptRanges", laid_unicode_utf8_acceptRanges), ("unicode/utf8.first", laid_unicode_utf8_first)] }
def TxnNeedsSaid : Prop := txnNeedsRow.holds Tryz.pinned (OpenSpec.ofChange txnNeedsSpec)

/-- ITS FALSE NEIGHBOUR: 'it returns false'. Refute it at one input. -/
def txnNeedsWrong : ChangeSpec := { name := "txnNeeds", fn := fun _ => fun
  | [d1, d2] => { results := [.lit (.bool false)], args := [d1, d2] }
  | _ => none }
def TxnNeedsWrongFalsely : Prop := txnNeedsRow.holds Tryz.pinned (OpenSpec.ofChange txnNeedsWrong)

/-- 'ogivelaw17.TxnSteps': WHATEVER THE INPUT: true; the input reads as it did. -/
def txnStepsSpec : ChangeSpec := { name := "txnSteps", fn := fun _ => fun
  | [d1, d2, d3] => { results := [.lit (.bool true)], args := [d1, d2, d3] }
  | _ => none }
def txnStepsRow : OpenClaim := { program := "ytabdldfigjkfaaagreatdoor", sum := "4d4893dbaae6df55ac7ee9fd62ab2a31212a5bf57078c1344716d9ad48ba245b", func := "ogive/ogivelaw17.TxnSteps", spec := "txnSteps", inPlace := ["internal/bytealg.IndexByteString", "internal/bytealg.IndexString", "internal/abi.NoEscape", "internal/bytealg.abigen_runtime_cmpstring", "internal/bytealg.CountString", "internal/bytealg.MakeNoZero", "slices.overlaps[ogive/graph.Entry]"], unfollowed := true, recurses := true, named := ["internal/bytealg.MaxLen", "unicode/utf8.first", "unicode/utf8.acceptRanges"], plainKeys := false, apart := false, laid := [("unicode/utf8.acceptRanges", laid_unicode_utf8_acceptRanges), ("unicode/utf8.first", laid_unicode_utf8_first)] }
def TxnStepsSaid : Prop := txnStepsRow.holds Tryz.pinned (OpenSpec.ofChange txnStepsSpec)

/-- ITS FALSE NEIGHBOUR: 'it returns false'. Refute it at one input. -/
def txnStepsWrong : ChangeSpec := { name := "txnSteps", fn := fun _ => fun
  | [d1, d2, d3] => { results := [.lit (.bool false)], args := [d1, d2, d3] }
  | _ => none }
def TxnStepsWrongFalsely : Prop := txnStepsRow.holds Tryz.pinned (OpenSpec.ofChange txnStepsWrong)

/-- 'ogivelaw17.TxnView': WHATEVER THE INPUT: true; the input reads as it did. -/
def txnViewSpec : ChangeSpec := { name := "txnView", fn := fun _ => fun
  | [d1, d2, d3] => { results := [.lit (.bool true)], args := [d1, d2, d3] }
  | _ => none }
def txnViewRow : OpenClaim := { program := "ytabdldfigjkfaaagreatdoor", sum := "4d4893dbaae6df55ac7ee9fd62ab2a31212a5bf57078c1344716d9ad48ba245b", func := "ogive/ogivelaw17.TxnView", spec := "txnView", inPlace := ["internal/bytealg.IndexByteString", "internal/bytealg.IndexString", "internal/abi.NoEscape", "internal/bytealg.abigen_runtime_cmpstring", "internal/bytealg.CountString", "internal/bytealg.MakeNoZero", "slices.overlaps[ogive/graph.Entry]"], unfollowed := true, recurses := true, named := ["internal/bytealg.MaxLen", "unicode/utf8.first", "unicode/utf8.acceptRanges"], plainKeys := false, apart := false, laid := [("unicode/utf8.acceptRanges", laid_unicode_utf8_acceptRanges), ("unicode/utf8.first", laid_unicode_utf8_first)] }
def TxnViewSaid : Prop := txnViewRow.holds Tryz.pinned (OpenSpec.ofChange txnViewSpec)

/-- ITS FALSE NEIGHBOUR: 'it returns false'. Refute it at one input. -/
def txnViewWrong : ChangeSpec := { name := "txnView", fn := fun _ => fun
  | [d1, d2, d3] => { results := [.lit (.bool false)], args := [d1, d2, d3] }
  | _ => none }
def TxnViewWrongFalsely : Prop := txnViewRow.holds Tryz.pinned (OpenSpec.ofChange txnViewWrong)

/-- 'ogivelaw17.TxnTells': WHATEVER THE INPUT: true; the input reads as it did. -/
def txnTellsSpec : ChangeSpec := { name := "txnTells", fn := fun _ => fun
  | [d1, d2, d3] => { results := [.lit (.bool true)], args := [d1, d2, d3] }
  | _ => none }
def txnTellsRow : OpenClaim := { program := "ytabdldfigjkfaaagreatdoor", sum := "4d4893dbaae6df55ac7ee9fd62ab2a31212a5bf57078c1344716d9ad48ba245b", func := "ogive/ogivelaw17.TxnTells", spec := "txnTells", inPlace := ["internal/bytealg.IndexByteString", "internal/bytealg.IndexString", "internal/abi.NoEscape", "internal/bytealg.abigen_runtime_cmpstring", "internal/bytealg.CountString", "internal/bytealg.MakeNoZero", "slices.overlaps[ogive/graph.Entry]"], unfollowed := true, recurses := true, named := ["internal/bytealg.MaxLen", "unicode/utf8.first", "unicode/utf8.acceptRanges"], plainKeys := false, apart := false, laid := [("unicode/utf8.acceptRanges", laid_unicode_utf8_acceptRanges), ("unicode/utf8.first", laid_unicode_utf8_first)] }
def TxnTellsSaid : Prop := txnTellsRow.holds Tryz.pinned (OpenSpec.ofChange txnTellsSpec)

/-- ITS FALSE NEIGHBOUR: 'it returns false'. Refute it at one input. -/
def txnTellsWrong : ChangeSpec := { name := "txnTells", fn := fun _ => fun
  | [d1, d2, d3] => { results := [.lit (.bool false)], args := [d1, d2, d3] }
  | _ => none }
def TxnTellsWrongFalsely : Prop := txnTellsRow.holds Tryz.pinned (OpenSpec.ofChange txnTellsWrong)

/-- 'ogivelaw17.TxnBetween': WHATEVER THE INPUT: true; the input reads as it did. -/
def txnBetweenSpec : ChangeSpec := { name := "txnBetween", fn := fun _ => fun
  | [d1, d2, d3] => { results := [.lit (.bool true)], args := [d1, d2, d3] }
  | _ => none }
def txnBetweenRow : OpenClaim := { program := "ytabdldfigjkfaaagreatdoor", sum := "4d4893dbaae6df55ac7ee9fd62ab2a31212a5bf57078c1344716d9ad48ba245b", func := "ogive/ogivelaw17.TxnBetween", spec := "txnBetween", inPlace := ["internal/bytealg.IndexByteString", "internal/bytealg.IndexString", "internal/abi.NoEscape", "internal/bytealg.abigen_runtime_cmpstring", "internal/bytealg.CountString", "internal/bytealg.MakeNoZero", "slices.overlaps[ogive/graph.Entry]"], unfollowed := true, recurses := true, named := ["internal/bytealg.MaxLen", "unicode/utf8.first", "unicode/utf8.acceptRanges"], plainKeys := false, apart := false, laid := [("unicode/utf8.acceptRanges", laid_unicode_utf8_acceptRanges), ("unicode/utf8.first", laid_unicode_utf8_first)] }
def TxnBetweenSaid : Prop := txnBetweenRow.holds Tryz.pinned (OpenSpec.ofChange txnBetweenSpec)

/-- ITS FALSE NEIGHBOUR: 'it returns false'. Refute it at one input. -/
def txnBetweenWrong : ChangeSpec := { name := "txnBetween", fn := fun _ => fun
  | [d1, d2, d3] => { results := [.lit (.bool false)], args := [d1, d2, d3] }
  | _ => none }
def TxnBetweenWrongFalsely : Prop := txnBetweenRow.holds Tryz.pinned (OpenSpec.ofChange txnBetweenWrong)

/-- 'ogivelaw17.TxnWrites': WHATEVER THE INPUT: true; the input reads as it did. -/
def txnWritesSpec : ChangeSpec := { name := "txnWrites", fn := fun _ => fun
  | [d1, d2, d3] => { results := [.lit (.bool true)], args := [d1, d2, d3] }
  | _ => none }
def txnWritesRow : OpenClaim := { program := "ytabdldfigjkfaaagreatdoor", sum := "4d4893dbaae6df55ac7ee9fd62ab2a31212a5bf57078c1344716d9ad48ba245b", func := "ogive/ogivelaw17.TxnWrites", spec := "txnWrites", inPlace := ["internal/bytealg.IndexByteString", "internal/bytealg.IndexString", "internal/abi.NoEscape", "internal/bytealg.abigen_runtime_cmpstring", "internal/bytealg.CountString", "internal/bytealg.MakeNoZero", "slices.overlaps[ogive/graph.Entry]"], unfollowed := true, recurses := true, named := ["internal/bytealg.MaxLen", "unicode/utf8.first", "unicode/utf8.acceptRanges"], plainKeys := false, apart := false, laid := [("unicode/utf8.acceptRanges", laid_unicode_utf8_acceptRanges), ("unicode/utf8.first", laid_unicode_utf8_first)] }
def TxnWritesSaid : Prop := txnWritesRow.holds Tryz.pinned (OpenSpec.ofChange txnWritesSpec)

/-- ITS FALSE NEIGHBOUR: 'it returns false'. Refute it at one input. -/
def txnWritesWrong : ChangeSpec := { name := "txnWrites", fn := fun _ => fun
  | [d1, d2, d3] => { results := [.lit (.bool false)], args := [d1, d2, d3] }
  | _ => none }
def TxnWritesWrongFalsely : Prop := txnWritesRow.holds Tryz.pinned (OpenSpec.ofChange txnWritesWrong)

/- THE SECOND FORM. 'bulk': how many values and letters a reading holds, each counted each time it is reached (what is shared counts as often as it is met; a slice's spare places count too). A statement '..UptoSaid' is the law's where the arguments, and the package variables that the reading takes, are together of bulk at most 1048576: NARROWER than '..Said'. Prove '..Said' where nothing that the law and all that it calls make is longer than what came in: it says more and counts as full. Else prove '..UptoSaid'. A law counts once. -/
mutual
def uptoBulk {H : Type} : DataW H → Nat
  | .lit (.string bytes) => bytes.length + 1
  | .lit _ => 1
  | .nil => 1
  | .ptr d => uptoBulk d + 1
  | .slice elems spare => uptoBulkAll elems + uptoBulkAll spare + 1
  | .agg parts => uptoBulkAll parts + 1
  | .iface _ d => uptoBulk d + 1
  | .map entries => uptoBulkEntries entries + 1
  | .held _ => 1
def uptoBulkAll {H : Type} : List (DataW H) → Nat
  | [] => 0
  | d :: r => uptoBulk d + uptoBulkAll r
def uptoBulkEntries {H : Type} : List (Lit × DataW H) → Nat
  | [] => 0
  | x :: r => uptoBulkEntry x + uptoBulkEntries r
def uptoBulkEntry {H : Type} : Lit × DataW H → Nat
  | (.string bytes, d) => bytes.length + uptoBulk d + 1
  | (_, d) => uptoBulk d + 1
 end
def uptoSmall : (H : Type) → List (DataW H) → Bool := fun _ ds => decide (uptoBulkAll ds ≤ 1048576)
def OpenSpec.upto (s : _root_.Go.ChangeSpec) : _root_.Go.OpenSpec := { _root_.Go.OpenSpec.ofChange s with cond := some uptoSmall }

/-- 'ogivelaw15.OpReads', WHERE WHAT IT READS IS OF BULK AT MOST 1048576: true; the input reads as it did. -/
def opReadsUptoRow : OpenClaim := { program := "ytabdldfigjkfaaagreatdoor", sum := "4d4893dbaae6df55ac7ee9fd62ab2a31212a5bf57078c1344716d9ad48ba245b", func := "ogive/ogivelaw15.OpReads", spec := "opReads", inPlace := ["internal/bytealg.IndexByteString", "internal/bytealg.IndexString", "internal/abi.NoEscape", "internal/bytealg.abigen_runtime_cmpstring", "internal/bytealg.CountString", "internal/bytealg.MakeNoZero", "slices.overlaps[ogive/graph.Entry]"], unfollowed := true, recurses := true, named := ["internal/bytealg.MaxLen", "unicode/utf8.first", "unicode/utf8.acceptRanges"], plainKeys := false, apart := false, laid := [("unicode/utf8.acceptRanges", laid_unicode_utf8_acceptRanges), ("unicode/utf8.first", laid_unicode_utf8_first)], narrowed := true }
def OpReadsUptoSaid : Prop := opReadsUptoRow.holds Tryz.pinned (OpenSpec.upto opReadsSpec)

/-- 'ogivelaw15.OpBack', WHERE WHAT IT READS IS OF BULK AT MOST 1048576: true; the input reads as it did. -/
def opBackUptoRow : OpenClaim := { program := "ytabdldfigjkfaaagreatdoor", sum := "4d4893dbaae6df55ac7ee9fd62ab2a31212a5bf57078c1344716d9ad48ba245b", func := "ogive/ogivelaw15.OpBack", spec := "opBack", inPlace := ["internal/bytealg.IndexByteString", "internal/bytealg.IndexString", "internal/abi.NoEscape", "internal/bytealg.abigen_runtime_cmpstring", "internal/bytealg.CountString", "internal/bytealg.MakeNoZero", "slices.overlaps[ogive/graph.Entry]"], unfollowed := true, recurses := true, named := ["internal/bytealg.MaxLen", "unicode/utf8.first", "unicode/utf8.acceptRanges"], plainKeys := false, apart := false, laid := [("unicode/utf8.acceptRanges", laid_unicode_utf8_acceptRanges), ("unicode/utf8.first", laid_unicode_utf8_first)], narrowed := true }
def OpBackUptoSaid : Prop := opBackUptoRow.holds Tryz.pinned (OpenSpec.upto opBackSpec)

/-- 'ogivelaw16.ProgEffect', WHERE WHAT IT READS IS OF BULK AT MOST 1048576: true; the input reads as it did. -/
def progEffectUptoRow : OpenClaim := { program := "ytabdldfigjkfaaagreatdoor", sum := "4d4893dbaae6df55ac7ee9fd62ab2a31212a5bf57078c1344716d9ad48ba245b", func := "ogive/ogivelaw16.ProgEffect", spec := "progEffect", inPlace := ["maps.clone", "internal/bytealg.IndexByteString", "internal/bytealg.IndexString", "internal/abi.NoEscape", "internal/bytealg.abigen_runtime_cmpstring", "internal/bytealg.CountString", "internal/bytealg.MakeNoZero", "slices.overlaps[ogive/graph.Entry]"], unfollowed := true, recurses := true, named := ["internal/bytealg.MaxLen", "unicode/utf8.first", "unicode/utf8.acceptRanges"], plainKeys := false, apart := false, laid := [("unicode/utf8.acceptRanges", laid_unicode_utf8_acceptRanges), ("unicode/utf8.first", laid_unicode_utf8_first)], narrowed := true }
def ProgEffectUptoSaid : Prop := progEffectUptoRow.holds Tryz.pinned (OpenSpec.upto progEffectSpec)

/-- 'ogivelaw16.ProgApplies', WHERE WHAT IT READS IS OF BULK AT MOST 1048576: true; the input reads as it did. -/
def progAppliesUptoRow : OpenClaim := { program := "ytabdldfigjkfaaagreatdoor", sum := "4d4893dbaae6df55ac7ee9fd62ab2a31212a5bf57078c1344716d9ad48ba245b", func := "ogive/ogivelaw16.ProgApplies", spec := "progApplies", inPlace := ["maps.clone", "internal/bytealg.IndexByteString", "internal/bytealg.IndexString", "internal/abi.NoEscape", "internal/bytealg.abigen_runtime_cmpstring", "internal/bytealg.CountString", "internal/bytealg.MakeNoZero", "slices.overlaps[ogive/graph.Entry]"], unfollowed := true, recurses := true, named := ["internal/bytealg.MaxLen", "unicode/utf8.first", "unicode/utf8.acceptRanges"], plainKeys := false, apart := false, laid := [("unicode/utf8.acceptRanges", laid_unicode_utf8_acceptRanges), ("unicode/utf8.first", laid_unicode_utf8_first)], narrowed := true }
def ProgAppliesUptoSaid : Prop := progAppliesUptoRow.holds Tryz.pinned (OpenSpec.upto progAppliesSpec)

/-- 'ogivelaw16.ProgWhole', WHERE WHAT IT READS IS OF BULK AT MOST 1048576: true; the input reads as it did. -/
def progWholeUptoRow : OpenClaim := { program := "ytabdldfigjkfaaagreatdoor", sum := "4d4893dbaae6df55ac7ee9fd62ab2a31212a5bf57078c1344716d9ad48ba245b", func := "ogive/ogivelaw16.ProgWhole", spec := "progWhole", inPlace := ["maps.clone", "internal/bytealg.IndexByteString", "internal/bytealg.IndexString", "internal/abi.NoEscape", "internal/bytealg.abigen_runtime_cmpstring", "internal/bytealg.CountString", "internal/bytealg.MakeNoZero", "slices.overlaps[ogive/graph.Entry]"], unfollowed := true, recurses := true, named := ["internal/bytealg.MaxLen", "unicode/utf8.first", "unicode/utf8.acceptRanges"], plainKeys := false, apart := false, laid := [("unicode/utf8.acceptRanges", laid_unicode_utf8_acceptRanges), ("unicode/utf8.first", laid_unicode_utf8_first)], narrowed := true }
def ProgWholeUptoSaid : Prop := progWholeUptoRow.holds Tryz.pinned (OpenSpec.upto progWholeSpec)

/-- 'ogivelaw17.TxnNeeds', WHERE WHAT IT READS IS OF BULK AT MOST 1048576: true; the input reads as it did. -/
def txnNeedsUptoRow : OpenClaim := { program := "ytabdldfigjkfaaagreatdoor", sum := "4d4893dbaae6df55ac7ee9fd62ab2a31212a5bf57078c1344716d9ad48ba245b", func := "ogive/ogivelaw17.TxnNeeds", spec := "txnNeeds", inPlace := ["internal/bytealg.IndexByteString", "internal/bytealg.IndexString", "internal/abi.NoEscape", "internal/bytealg.abigen_runtime_cmpstring", "internal/bytealg.CountString", "internal/bytealg.MakeNoZero", "slices.overlaps[ogive/graph.Entry]"], unfollowed := true, recurses := true, named := ["internal/bytealg.MaxLen", "unicode/utf8.first", "unicode/utf8.acceptRanges"], plainKeys := false, apart := false, laid := [("unicode/utf8.acceptRanges", laid_unicode_utf8_acceptRanges), ("unicode/utf8.first", laid_unicode_utf8_first)], narrowed := true }
def TxnNeedsUptoSaid : Prop := txnNeedsUptoRow.holds Tryz.pinned (OpenSpec.upto txnNeedsSpec)

/-- 'ogivelaw17.TxnSteps', WHERE WHAT IT READS IS OF BULK AT MOST 1048576: true; the input reads as it did. -/
def txnStepsUptoRow : OpenClaim := { program := "ytabdldfigjkfaaagreatdoor", sum := "4d4893dbaae6df55ac7ee9fd62ab2a31212a5bf57078c1344716d9ad48ba245b", func := "ogive/ogivelaw17.TxnSteps", spec := "txnSteps", inPlace := ["internal/bytealg.IndexByteString", "internal/bytealg.IndexString", "internal/abi.NoEscape", "internal/bytealg.abigen_runtime_cmpstring", "internal/bytealg.CountString", "internal/bytealg.MakeNoZero", "slices.overlaps[ogive/graph.Entry]"], unfollowed := true, recurses := true, named := ["internal/bytealg.MaxLen", "unicode/utf8.first", "unicode/utf8.acceptRanges"], plainKeys := false, apart := false, laid := [("unicode/utf8.acceptRanges", laid_unicode_utf8_acceptRanges), ("unicode/utf8.first", laid_unicode_utf8_first)], narrowed := true }
def TxnStepsUptoSaid : Prop := txnStepsUptoRow.holds Tryz.pinned (OpenSpec.upto txnStepsSpec)

/-- 'ogivelaw17.TxnView', WHERE WHAT IT READS IS OF BULK AT MOST 1048576: true; the input reads as it did. -/
def txnViewUptoRow : OpenClaim := { program := "ytabdldfigjkfaaagreatdoor", sum := "4d4893dbaae6df55ac7ee9fd62ab2a31212a5bf57078c1344716d9ad48ba245b", func := "ogive/ogivelaw17.TxnView", spec := "txnView", inPlace := ["internal/bytealg.IndexByteString", "internal/bytealg.IndexString", "internal/abi.NoEscape", "internal/bytealg.abigen_runtime_cmpstring", "internal/bytealg.CountString", "internal/bytealg.MakeNoZero", "slices.overlaps[ogive/graph.Entry]"], unfollowed := true, recurses := true, named := ["internal/bytealg.MaxLen", "unicode/utf8.first", "unicode/utf8.acceptRanges"], plainKeys := false, apart := false, laid := [("unicode/utf8.acceptRanges", laid_unicode_utf8_acceptRanges), ("unicode/utf8.first", laid_unicode_utf8_first)], narrowed := true }
def TxnViewUptoSaid : Prop := txnViewUptoRow.holds Tryz.pinned (OpenSpec.upto txnViewSpec)

/-- 'ogivelaw17.TxnTells', WHERE WHAT IT READS IS OF BULK AT MOST 1048576: true; the input reads as it did. -/
def txnTellsUptoRow : OpenClaim := { program := "ytabdldfigjkfaaagreatdoor", sum := "4d4893dbaae6df55ac7ee9fd62ab2a31212a5bf57078c1344716d9ad48ba245b", func := "ogive/ogivelaw17.TxnTells", spec := "txnTells", inPlace := ["internal/bytealg.IndexByteString", "internal/bytealg.IndexString", "internal/abi.NoEscape", "internal/bytealg.abigen_runtime_cmpstring", "internal/bytealg.CountString", "internal/bytealg.MakeNoZero", "slices.overlaps[ogive/graph.Entry]"], unfollowed := true, recurses := true, named := ["internal/bytealg.MaxLen", "unicode/utf8.first", "unicode/utf8.acceptRanges"], plainKeys := false, apart := false, laid := [("unicode/utf8.acceptRanges", laid_unicode_utf8_acceptRanges), ("unicode/utf8.first", laid_unicode_utf8_first)], narrowed := true }
def TxnTellsUptoSaid : Prop := txnTellsUptoRow.holds Tryz.pinned (OpenSpec.upto txnTellsSpec)

/-- 'ogivelaw17.TxnBetween', WHERE WHAT IT READS IS OF BULK AT MOST 1048576: true; the input reads as it did. -/
def txnBetweenUptoRow : OpenClaim := { program := "ytabdldfigjkfaaagreatdoor", sum := "4d4893dbaae6df55ac7ee9fd62ab2a31212a5bf57078c1344716d9ad48ba245b", func := "ogive/ogivelaw17.TxnBetween", spec := "txnBetween", inPlace := ["internal/bytealg.IndexByteString", "internal/bytealg.IndexString", "internal/abi.NoEscape", "internal/bytealg.abigen_runtime_cmpstring", "internal/bytealg.CountString", "internal/bytealg.MakeNoZero", "slices.overlaps[ogive/graph.Entry]"], unfollowed := true, recurses := true, named := ["internal/bytealg.MaxLen", "unicode/utf8.first", "unicode/utf8.acceptRanges"], plainKeys := false, apart := false, laid := [("unicode/utf8.acceptRanges", laid_unicode_utf8_acceptRanges), ("unicode/utf8.first", laid_unicode_utf8_first)], narrowed := true }
def TxnBetweenUptoSaid : Prop := txnBetweenUptoRow.holds Tryz.pinned (OpenSpec.upto txnBetweenSpec)

/-- 'ogivelaw17.TxnWrites', WHERE WHAT IT READS IS OF BULK AT MOST 1048576: true; the input reads as it did. -/
def txnWritesUptoRow : OpenClaim := { program := "ytabdldfigjkfaaagreatdoor", sum := "4d4893dbaae6df55ac7ee9fd62ab2a31212a5bf57078c1344716d9ad48ba245b", func := "ogive/ogivelaw17.TxnWrites", spec := "txnWrites", inPlace := ["internal/bytealg.IndexByteString", "internal/bytealg.IndexString", "internal/abi.NoEscape", "internal/bytealg.abigen_runtime_cmpstring", "internal/bytealg.CountString", "internal/bytealg.MakeNoZero", "slices.overlaps[ogive/graph.Entry]"], unfollowed := true, recurses := true, named := ["internal/bytealg.MaxLen", "unicode/utf8.first", "unicode/utf8.acceptRanges"], plainKeys := false, apart := false, laid := [("unicode/utf8.acceptRanges", laid_unicode_utf8_acceptRanges), ("unicode/utf8.first", laid_unicode_utf8_first)], narrowed := true }
def TxnWritesUptoSaid : Prop := txnWritesUptoRow.holds Tryz.pinned (OpenSpec.upto txnWritesSpec)

end Rows
end Go.Proofs.YtabdldfigjkfaaaGreatDoor
