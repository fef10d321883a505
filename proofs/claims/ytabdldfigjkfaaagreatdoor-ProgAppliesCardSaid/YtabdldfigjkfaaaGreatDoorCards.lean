/-
  DERIVED. GIVEN WITH THE SEED: THE CARDS: each row of YtabdldfigjkfaaaGreatDoorRows.lean that lists a variable, with what it lists TIED to the program's text (the seventh form; the later family's looks); each row that meets fmt, with fmt's text TOLD by the authors' own Lean function (tested against real Go, not proved from fmt's source: count such statements apart). THE CARD IS WHAT COUNTS. Prove the row's statement (the work); the ties are given (YtabdldfigjkfaaaGreatDoorTie.lean); close each card by the builder's one call (the guide's Derived/Test/ToyasCard.lean, 'card_holds'). Laid BY PROGRAM, IN A SANDBOX (cutbox-door.mjs). By AI agents, Wed Nov 11 2026. No macro, syntax, notation, axiom, sorry.
-/
import Derived.Test.YtabdldfigjkfaaaGreatDoorRows
import GoSem.ClaimSeven
namespace Go.Proofs.YtabdldfigjkfaaaGreatDoor
namespace Rows

/-- THE TIED CARD OF 'ogivelaw15.OpReads'. -/
def opReadsCard : Claim7 := { stood := { row := opReadsRow, standIns := [], harness := (true, "9bb3731a27963b226b6c688d4b5ebc812c2c42473ce0a95d5580fc299951debc"), looks := true }, kinds := [], alts := [], laidByText := true, laidKinds := [.data, .pinned], laidTests := true, laidLooks := .later }
def OpReadsCardSaid : Prop := Claim7.holds Tryz.pinned (.plain (OpenSpec.ofChange opReadsSpec)) opReadsCard

/-- THE TIED CARD OF 'ogivelaw15.OpBack'. -/
def opBackCard : Claim7 := { stood := { row := opBackRow, standIns := [], harness := (true, "9bb3731a27963b226b6c688d4b5ebc812c2c42473ce0a95d5580fc299951debc"), looks := true }, kinds := [], alts := [], laidByText := true, laidKinds := [.data, .pinned], laidTests := true, laidLooks := .later }
def OpBackCardSaid : Prop := Claim7.holds Tryz.pinned (.plain (OpenSpec.ofChange opBackSpec)) opBackCard

/-- THE TIED CARD OF 'ogivelaw16.ProgEffect'. -/
def progEffectCard : Claim7 := { stood := { row := progEffectRow, standIns := [], harness := (true, "9bb3731a27963b226b6c688d4b5ebc812c2c42473ce0a95d5580fc299951debc"), looks := true }, kinds := [], alts := [], laidByText := true, laidKinds := [.data, .pinned], laidTests := true, laidLooks := .later }
def ProgEffectCardSaid : Prop := Claim7.holds Tryz.pinned (.plain (OpenSpec.ofChange progEffectSpec)) progEffectCard

/-- THE TIED CARD OF 'ogivelaw16.ProgApplies'. -/
def progAppliesCard : Claim7 := { stood := { row := progAppliesRow, standIns := [], harness := (true, "9bb3731a27963b226b6c688d4b5ebc812c2c42473ce0a95d5580fc299951debc"), looks := true }, kinds := [], alts := [], laidByText := true, laidKinds := [.data, .pinned], laidTests := true, laidLooks := .later }
def ProgAppliesCardSaid : Prop := Claim7.holds Tryz.pinned (.plain (OpenSpec.ofChange progAppliesSpec)) progAppliesCard

/-- THE TIED CARD OF 'ogivelaw16.ProgWhole'. -/
def progWholeCard : Claim7 := { stood := { row := progWholeRow, standIns := [], harness := (true, "9bb3731a27963b226b6c688d4b5ebc812c2c42473ce0a95d5580fc299951debc"), looks := true }, kinds := [], alts := [], laidByText := true, laidKinds := [.data, .pinned], laidTests := true, laidLooks := .later }
def ProgWholeCardSaid : Prop := Claim7.holds Tryz.pinned (.plain (OpenSpec.ofChange progWholeSpec)) progWholeCard

/-- THE TIED CARD OF 'ogivelaw17.TxnNeeds'. -/
def txnNeedsCard : Claim7 := { stood := { row := txnNeedsRow, standIns := [], harness := (true, "9bb3731a27963b226b6c688d4b5ebc812c2c42473ce0a95d5580fc299951debc"), looks := true }, kinds := [], alts := [], laidByText := true, laidKinds := [.data, .pinned], laidTests := true, laidLooks := .later }
def TxnNeedsCardSaid : Prop := Claim7.holds Tryz.pinned (.plain (OpenSpec.ofChange txnNeedsSpec)) txnNeedsCard

/-- THE TIED CARD OF 'ogivelaw17.TxnSteps'. -/
def txnStepsCard : Claim7 := { stood := { row := txnStepsRow, standIns := [], harness := (true, "9bb3731a27963b226b6c688d4b5ebc812c2c42473ce0a95d5580fc299951debc"), looks := true }, kinds := [], alts := [], laidByText := true, laidKinds := [.data, .pinned], laidTests := true, laidLooks := .later }
def TxnStepsCardSaid : Prop := Claim7.holds Tryz.pinned (.plain (OpenSpec.ofChange txnStepsSpec)) txnStepsCard

/-- THE TIED CARD OF 'ogivelaw17.TxnView'. -/
def txnViewCard : Claim7 := { stood := { row := txnViewRow, standIns := [], harness := (true, "9bb3731a27963b226b6c688d4b5ebc812c2c42473ce0a95d5580fc299951debc"), looks := true }, kinds := [], alts := [], laidByText := true, laidKinds := [.data, .pinned], laidTests := true, laidLooks := .later }
def TxnViewCardSaid : Prop := Claim7.holds Tryz.pinned (.plain (OpenSpec.ofChange txnViewSpec)) txnViewCard

/-- THE TIED CARD OF 'ogivelaw17.TxnTells'. -/
def txnTellsCard : Claim7 := { stood := { row := txnTellsRow, standIns := [], harness := (true, "9bb3731a27963b226b6c688d4b5ebc812c2c42473ce0a95d5580fc299951debc"), looks := true }, kinds := [], alts := [], laidByText := true, laidKinds := [.data, .pinned], laidTests := true, laidLooks := .later }
def TxnTellsCardSaid : Prop := Claim7.holds Tryz.pinned (.plain (OpenSpec.ofChange txnTellsSpec)) txnTellsCard

/-- THE TIED CARD OF 'ogivelaw17.TxnBetween'. -/
def txnBetweenCard : Claim7 := { stood := { row := txnBetweenRow, standIns := [], harness := (true, "9bb3731a27963b226b6c688d4b5ebc812c2c42473ce0a95d5580fc299951debc"), looks := true }, kinds := [], alts := [], laidByText := true, laidKinds := [.data, .pinned], laidTests := true, laidLooks := .later }
def TxnBetweenCardSaid : Prop := Claim7.holds Tryz.pinned (.plain (OpenSpec.ofChange txnBetweenSpec)) txnBetweenCard

/-- THE TIED CARD OF 'ogivelaw17.TxnWrites'. -/
def txnWritesCard : Claim7 := { stood := { row := txnWritesRow, standIns := [], harness := (true, "9bb3731a27963b226b6c688d4b5ebc812c2c42473ce0a95d5580fc299951debc"), looks := true }, kinds := [], alts := [], laidByText := true, laidKinds := [.data, .pinned], laidTests := true, laidLooks := .later }
def TxnWritesCardSaid : Prop := Claim7.holds Tryz.pinned (.plain (OpenSpec.ofChange txnWritesSpec)) txnWritesCard

/-- THE SECOND FORM's CARD OF 'ogivelaw15.OpReads'. -/
def opReadsUptoCard : Claim7 := { stood := { row := opReadsUptoRow, standIns := [], harness := (true, "9bb3731a27963b226b6c688d4b5ebc812c2c42473ce0a95d5580fc299951debc"), looks := true }, kinds := [], alts := [], laidByText := true, laidKinds := [.data, .pinned], laidTests := true, laidLooks := .later }
def OpReadsUptoCardSaid : Prop := Claim7.holds Tryz.pinned (.plain (OpenSpec.upto opReadsSpec)) opReadsUptoCard

/-- THE SECOND FORM's CARD OF 'ogivelaw15.OpBack'. -/
def opBackUptoCard : Claim7 := { stood := { row := opBackUptoRow, standIns := [], harness := (true, "9bb3731a27963b226b6c688d4b5ebc812c2c42473ce0a95d5580fc299951debc"), looks := true }, kinds := [], alts := [], laidByText := true, laidKinds := [.data, .pinned], laidTests := true, laidLooks := .later }
def OpBackUptoCardSaid : Prop := Claim7.holds Tryz.pinned (.plain (OpenSpec.upto opBackSpec)) opBackUptoCard

/-- THE SECOND FORM's CARD OF 'ogivelaw16.ProgEffect'. -/
def progEffectUptoCard : Claim7 := { stood := { row := progEffectUptoRow, standIns := [], harness := (true, "9bb3731a27963b226b6c688d4b5ebc812c2c42473ce0a95d5580fc299951debc"), looks := true }, kinds := [], alts := [], laidByText := true, laidKinds := [.data, .pinned], laidTests := true, laidLooks := .later }
def ProgEffectUptoCardSaid : Prop := Claim7.holds Tryz.pinned (.plain (OpenSpec.upto progEffectSpec)) progEffectUptoCard

/-- THE SECOND FORM's CARD OF 'ogivelaw16.ProgApplies'. -/
def progAppliesUptoCard : Claim7 := { stood := { row := progAppliesUptoRow, standIns := [], harness := (true, "9bb3731a27963b226b6c688d4b5ebc812c2c42473ce0a95d5580fc299951debc"), looks := true }, kinds := [], alts := [], laidByText := true, laidKinds := [.data, .pinned], laidTests := true, laidLooks := .later }
def ProgAppliesUptoCardSaid : Prop := Claim7.holds Tryz.pinned (.plain (OpenSpec.upto progAppliesSpec)) progAppliesUptoCard

/-- THE SECOND FORM's CARD OF 'ogivelaw16.ProgWhole'. -/
def progWholeUptoCard : Claim7 := { stood := { row := progWholeUptoRow, standIns := [], harness := (true, "9bb3731a27963b226b6c688d4b5ebc812c2c42473ce0a95d5580fc299951debc"), looks := true }, kinds := [], alts := [], laidByText := true, laidKinds := [.data, .pinned], laidTests := true, laidLooks := .later }
def ProgWholeUptoCardSaid : Prop := Claim7.holds Tryz.pinned (.plain (OpenSpec.upto progWholeSpec)) progWholeUptoCard

/-- THE SECOND FORM's CARD OF 'ogivelaw17.TxnNeeds'. -/
def txnNeedsUptoCard : Claim7 := { stood := { row := txnNeedsUptoRow, standIns := [], harness := (true, "9bb3731a27963b226b6c688d4b5ebc812c2c42473ce0a95d5580fc299951debc"), looks := true }, kinds := [], alts := [], laidByText := true, laidKinds := [.data, .pinned], laidTests := true, laidLooks := .later }
def TxnNeedsUptoCardSaid : Prop := Claim7.holds Tryz.pinned (.plain (OpenSpec.upto txnNeedsSpec)) txnNeedsUptoCard

/-- THE SECOND FORM's CARD OF 'ogivelaw17.TxnSteps'. -/
def txnStepsUptoCard : Claim7 := { stood := { row := txnStepsUptoRow, standIns := [], harness := (true, "9bb3731a27963b226b6c688d4b5ebc812c2c42473ce0a95d5580fc299951debc"), looks := true }, kinds := [], alts := [], laidByText := true, laidKinds := [.data, .pinned], laidTests := true, laidLooks := .later }
def TxnStepsUptoCardSaid : Prop := Claim7.holds Tryz.pinned (.plain (OpenSpec.upto txnStepsSpec)) txnStepsUptoCard

/-- THE SECOND FORM's CARD OF 'ogivelaw17.TxnView'. -/
def txnViewUptoCard : Claim7 := { stood := { row := txnViewUptoRow, standIns := [], harness := (true, "9bb3731a27963b226b6c688d4b5ebc812c2c42473ce0a95d5580fc299951debc"), looks := true }, kinds := [], alts := [], laidByText := true, laidKinds := [.data, .pinned], laidTests := true, laidLooks := .later }
def TxnViewUptoCardSaid : Prop := Claim7.holds Tryz.pinned (.plain (OpenSpec.upto txnViewSpec)) txnViewUptoCard

/-- THE SECOND FORM's CARD OF 'ogivelaw17.TxnTells'. -/
def txnTellsUptoCard : Claim7 := { stood := { row := txnTellsUptoRow, standIns := [], harness := (true, "9bb3731a27963b226b6c688d4b5ebc812c2c42473ce0a95d5580fc299951debc"), looks := true }, kinds := [], alts := [], laidByText := true, laidKinds := [.data, .pinned], laidTests := true, laidLooks := .later }
def TxnTellsUptoCardSaid : Prop := Claim7.holds Tryz.pinned (.plain (OpenSpec.upto txnTellsSpec)) txnTellsUptoCard

/-- THE SECOND FORM's CARD OF 'ogivelaw17.TxnBetween'. -/
def txnBetweenUptoCard : Claim7 := { stood := { row := txnBetweenUptoRow, standIns := [], harness := (true, "9bb3731a27963b226b6c688d4b5ebc812c2c42473ce0a95d5580fc299951debc"), looks := true }, kinds := [], alts := [], laidByText := true, laidKinds := [.data, .pinned], laidTests := true, laidLooks := .later }
def TxnBetweenUptoCardSaid : Prop := Claim7.holds Tryz.pinned (.plain (OpenSpec.upto txnBetweenSpec)) txnBetweenUptoCard

/-- THE SECOND FORM's CARD OF 'ogivelaw17.TxnWrites'. -/
def txnWritesUptoCard : Claim7 := { stood := { row := txnWritesUptoRow, standIns := [], harness := (true, "9bb3731a27963b226b6c688d4b5ebc812c2c42473ce0a95d5580fc299951debc"), looks := true }, kinds := [], alts := [], laidByText := true, laidKinds := [.data, .pinned], laidTests := true, laidLooks := .later }
def TxnWritesUptoCardSaid : Prop := Claim7.holds Tryz.pinned (.plain (OpenSpec.upto txnWritesSpec)) txnWritesUptoCard
end Rows
end Go.Proofs.YtabdldfigjkfaaaGreatDoor
