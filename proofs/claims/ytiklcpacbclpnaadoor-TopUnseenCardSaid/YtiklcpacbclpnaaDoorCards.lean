/-
  DERIVED. GIVEN WITH THE SEED: THE CARDS: each row of YtiklcpacbclpnaaDoorRows.lean that lists a variable, with what it lists TIED to the program's text (the seventh form; the later family's looks); each row that meets fmt, with fmt's text TOLD by the authors' own Lean function (tested against real Go, not proved from fmt's source: count such statements apart). THE CARD IS WHAT COUNTS. Prove the row's statement (the work); the ties are given (YtiklcpacbclpnaaDoorTie.lean); close each card by the builder's one call (the guide's Derived/Test/ToyasCard.lean, 'card_holds'). Laid BY PROGRAM, IN A SANDBOX (cutbox-door.mjs). By AI agents, Wed Nov 11 2026. No macro, syntax, notation, axiom, sorry.
-/
import Derived.Test.YtiklcpacbclpnaaDoorRows
import GoSem.ClaimSeven
namespace Go.Proofs.YtiklcpacbclpnaaDoor
namespace Rows

/-- THE TIED CARD OF 'hibernacletop.TopOwnPages'. -/
def topOwnPagesCard : Claim7 := { stood := { row := topOwnPagesRow, standIns := [], harness := (true, "de297bce0b911fcb438eccad4523a68a3e429d708681199b001163e617f0b8f8"), looks := false }, kinds := [], alts := [], laidByText := true, laidKinds := [.data, .pinned], laidTests := true, laidLooks := .later }
def TopOwnPagesCardSaid : Prop := Claim7.holds Tryd.pinned (.plain (OpenSpec.ofChange topOwnPagesSpec)) topOwnPagesCard

/-- THE TIED CARD OF 'hibernacletop.TopUnseen'. -/
def topUnseenCard : Claim7 := { stood := { row := topUnseenRow, standIns := [], harness := (true, "de297bce0b911fcb438eccad4523a68a3e429d708681199b001163e617f0b8f8"), looks := false }, kinds := [], alts := [], laidByText := true, laidKinds := [.data, .pinned], laidTests := true, laidLooks := .later }
def TopUnseenCardSaid : Prop := Claim7.holds Tryd.pinned (.plain (OpenSpec.ofChange topUnseenSpec)) topUnseenCard

/-- THE SECOND FORM's CARD OF 'hibernacletop.TopOwnPages'. -/
def topOwnPagesUptoCard : Claim7 := { stood := { row := topOwnPagesUptoRow, standIns := [], harness := (true, "de297bce0b911fcb438eccad4523a68a3e429d708681199b001163e617f0b8f8"), looks := false }, kinds := [], alts := [], laidByText := true, laidKinds := [.data, .pinned], laidTests := true, laidLooks := .later }
def TopOwnPagesUptoCardSaid : Prop := Claim7.holds Tryd.pinned (.plain (OpenSpec.upto topOwnPagesSpec)) topOwnPagesUptoCard

/-- THE SECOND FORM's CARD OF 'hibernacletop.TopUnseen'. -/
def topUnseenUptoCard : Claim7 := { stood := { row := topUnseenUptoRow, standIns := [], harness := (true, "de297bce0b911fcb438eccad4523a68a3e429d708681199b001163e617f0b8f8"), looks := false }, kinds := [], alts := [], laidByText := true, laidKinds := [.data, .pinned], laidTests := true, laidLooks := .later }
def TopUnseenUptoCardSaid : Prop := Claim7.holds Tryd.pinned (.plain (OpenSpec.upto topUnseenSpec)) topUnseenUptoCard
end Rows
end Go.Proofs.YtiklcpacbclpnaaDoor
