/-
  DERIVED. GIVEN WITH THE SEED: THE CARDS: each row of YtmlokahphdlgiaaDoorRows.lean that lists a variable, with what it lists TIED to the program's text (the seventh form; the later family's looks); each row that meets fmt, with fmt's text TOLD by the authors' own Lean function (tested against real Go, not proved from fmt's source: count such statements apart). THE CARD IS WHAT COUNTS. Prove the row's statement (the work); the ties are given (YtmlokahphdlgiaaDoorTie.lean); close each card by the builder's one call (the guide's Derived/Test/ToyasCard.lean, 'card_holds'). Laid BY PROGRAM, IN A SANDBOX (cutbox-door.mjs). By AI agents, Wed Nov 11 2026. No macro, syntax, notation, axiom, sorry.
-/
import Derived.Test.YtmlokahphdlgiaaDoorRows
import GoSem.ClaimSeven
namespace Go.Proofs.YtmlokahphdlgiaaDoor
namespace Rows

/-- THE TIED CARD OF 'davitlaw26.FaultRight'. -/
def faultRightCard : Claim7 := { stood := { row := faultRightRow, standIns := [], harness := (true, "df33a0060d049d1343213697785fbde3b456ae88b58979ae8c6e1d278e22ef82"), looks := true }, kinds := [], alts := [], laidByText := true, laidKinds := [.handle], laidTests := true, laidLooks := .later }
def FaultRightCardSaid : Prop := Claim7.holds Tryd.pinned (.plain (OpenSpec.ofChange faultRightSpec)) faultRightCard

/-- THE TIED CARD OF 'davitlaw26.FaultChain'. -/
def faultChainCard : Claim7 := { stood := { row := faultChainRow, standIns := [], harness := (true, "df33a0060d049d1343213697785fbde3b456ae88b58979ae8c6e1d278e22ef82"), looks := true }, kinds := [], alts := [], laidByText := true, laidKinds := [.handle], laidTests := true, laidLooks := .later }
def FaultChainCardSaid : Prop := Claim7.holds Tryd.pinned (.plain (OpenSpec.ofChange faultChainSpec)) faultChainCard

/-- THE SECOND FORM's CARD OF 'davitlaw26.FaultRight'. -/
def faultRightUptoCard : Claim7 := { stood := { row := faultRightUptoRow, standIns := [], harness := (true, "df33a0060d049d1343213697785fbde3b456ae88b58979ae8c6e1d278e22ef82"), looks := true }, kinds := [], alts := [], laidByText := true, laidKinds := [.handle], laidTests := true, laidLooks := .later }
def FaultRightUptoCardSaid : Prop := Claim7.holds Tryd.pinned (.plain (OpenSpec.upto faultRightSpec)) faultRightUptoCard

/-- THE SECOND FORM's CARD OF 'davitlaw26.FaultChain'. -/
def faultChainUptoCard : Claim7 := { stood := { row := faultChainUptoRow, standIns := [], harness := (true, "df33a0060d049d1343213697785fbde3b456ae88b58979ae8c6e1d278e22ef82"), looks := true }, kinds := [], alts := [], laidByText := true, laidKinds := [.handle], laidTests := true, laidLooks := .later }
def FaultChainUptoCardSaid : Prop := Claim7.holds Tryd.pinned (.plain (OpenSpec.upto faultChainSpec)) faultChainUptoCard
end Rows
end Go.Proofs.YtmlokahphdlgiaaDoor
