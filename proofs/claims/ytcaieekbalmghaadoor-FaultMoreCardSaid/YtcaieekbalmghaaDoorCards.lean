/-
  DERIVED. GIVEN WITH THE SEED: THE CARDS: each row of YtcaieekbalmghaaDoorRows.lean that lists a variable, with what it lists TIED to the program's text (the seventh form; the later family's looks); each row that meets fmt, with fmt's text TOLD by the authors' own Lean function (tested against real Go, not proved from fmt's source: count such statements apart). THE CARD IS WHAT COUNTS. Prove the row's statement (the work); the ties are given (YtcaieekbalmghaaDoorTie.lean); close each card by the builder's one call (the guide's Derived/Test/ToyasCard.lean, 'card_holds'). Laid BY PROGRAM, IN A SANDBOX (cutbox-door.mjs). By AI agents, Wed Nov 11 2026. No macro, syntax, notation, axiom, sorry.
-/
import Derived.Test.YtcaieekbalmghaaDoorRows
import GoSem.ClaimSeven
namespace Go.Proofs.YtcaieekbalmghaaDoor
namespace Rows

/-- THE TIED CARD OF 'cohortlaw01.FaultMore'. -/
def faultMoreCard : Claim7 := { stood := { row := faultMoreRow, standIns := [], harness := (true, "860bd733d6de53556921e7e9cd289108af9b59ba98c82a112abe50c9fe071fc6"), looks := true }, kinds := [], alts := [], laidByText := true, laidKinds := [.handle], laidTests := true, laidLooks := .later }
def FaultMoreCardSaid : Prop := Claim7.holds Tryd.pinned (.plain (OpenSpec.ofChange faultMoreSpec)) faultMoreCard

/-- THE SECOND FORM's CARD OF 'cohortlaw01.FaultMore'. -/
def faultMoreUptoCard : Claim7 := { stood := { row := faultMoreUptoRow, standIns := [], harness := (true, "860bd733d6de53556921e7e9cd289108af9b59ba98c82a112abe50c9fe071fc6"), looks := true }, kinds := [], alts := [], laidByText := true, laidKinds := [.handle], laidTests := true, laidLooks := .later }
def FaultMoreUptoCardSaid : Prop := Claim7.holds Tryd.pinned (.plain (OpenSpec.upto faultMoreSpec)) faultMoreUptoCard
end Rows
end Go.Proofs.YtcaieekbalmghaaDoor
