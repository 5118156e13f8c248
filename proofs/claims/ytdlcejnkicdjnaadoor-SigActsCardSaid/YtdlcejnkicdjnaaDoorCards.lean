/-
  DERIVED. GIVEN WITH THE SEED: THE CARDS: each row of YtdlcejnkicdjnaaDoorRows.lean that lists a variable, with what it lists TIED to the program's text (the seventh form; the later family's looks); each row that meets fmt, with fmt's text TOLD by the authors' own Lean function (tested against real Go, not proved from fmt's source: count such statements apart). THE CARD IS WHAT COUNTS. Prove the row's statement (the work); the ties are given (YtdlcejnkicdjnaaDoorTie.lean); close each card by the builder's one call (the guide's Derived/Test/ToyasCard.lean, 'card_holds'). Laid BY PROGRAM, IN A SANDBOX (cutbox-door.mjs). By AI agents, Wed Nov 11 2026. No macro, syntax, notation, axiom, sorry.
-/
import Derived.Test.YtdlcejnkicdjnaaDoorRows
import GoSem.ClaimSeven
namespace Go.Proofs.YtdlcejnkicdjnaaDoor
namespace Rows

/-- THE TIED CARD OF 'marionettelaw21.SigOrder'. -/
def sigOrderCard : Claim7 := { stood := { row := sigOrderRow, standIns := [], harness := (true, "90d68a2baafa0bac6db03998b296b836d74a882c2e1e0dec4a01c910bba5fdc7"), looks := false }, kinds := [], alts := [], laidByText := true, laidKinds := [.data], laidTests := true, laidLooks := .later }
def SigOrderCardSaid : Prop := Claim7.holds Tryd.pinned (.plain (OpenSpec.ofChange sigOrderSpec)) sigOrderCard

/-- THE TIED CARD OF 'marionettelaw21.SigNever'. -/
def sigNeverCard : Claim7 := { stood := { row := sigNeverRow, standIns := [], harness := (true, "90d68a2baafa0bac6db03998b296b836d74a882c2e1e0dec4a01c910bba5fdc7"), looks := false }, kinds := [], alts := [], laidByText := true, laidKinds := [.data], laidTests := true, laidLooks := .later }
def SigNeverCardSaid : Prop := Claim7.holds Tryd.pinned (.plain (OpenSpec.ofChange sigNeverSpec)) sigNeverCard

/-- THE TIED CARD OF 'marionettelaw21.SigActs'. -/
def sigActsCard : Claim7 := { stood := { row := sigActsRow, standIns := [], harness := (true, "90d68a2baafa0bac6db03998b296b836d74a882c2e1e0dec4a01c910bba5fdc7"), looks := false }, kinds := [], alts := [], laidByText := true, laidKinds := [.data], laidTests := true, laidLooks := .later }
def SigActsCardSaid : Prop := Claim7.holds Tryd.pinned (.plain (OpenSpec.ofChange sigActsSpec)) sigActsCard

/-- THE TIED CARD OF 'marionettelaw21.SigNone'. -/
def sigNoneCard : Claim7 := { stood := { row := sigNoneRow, standIns := [], harness := (true, "90d68a2baafa0bac6db03998b296b836d74a882c2e1e0dec4a01c910bba5fdc7"), looks := false }, kinds := [], alts := [], laidByText := true, laidKinds := [.data], laidTests := true, laidLooks := .later }
def SigNoneCardSaid : Prop := Claim7.holds Tryd.pinned (.plain (OpenSpec.ofChange sigNoneSpec)) sigNoneCard

/-- THE SECOND FORM's CARD OF 'marionettelaw21.SigOrder'. -/
def sigOrderUptoCard : Claim7 := { stood := { row := sigOrderUptoRow, standIns := [], harness := (true, "90d68a2baafa0bac6db03998b296b836d74a882c2e1e0dec4a01c910bba5fdc7"), looks := false }, kinds := [], alts := [], laidByText := true, laidKinds := [.data], laidTests := true, laidLooks := .later }
def SigOrderUptoCardSaid : Prop := Claim7.holds Tryd.pinned (.plain (OpenSpec.upto sigOrderSpec)) sigOrderUptoCard

/-- THE SECOND FORM's CARD OF 'marionettelaw21.SigNever'. -/
def sigNeverUptoCard : Claim7 := { stood := { row := sigNeverUptoRow, standIns := [], harness := (true, "90d68a2baafa0bac6db03998b296b836d74a882c2e1e0dec4a01c910bba5fdc7"), looks := false }, kinds := [], alts := [], laidByText := true, laidKinds := [.data], laidTests := true, laidLooks := .later }
def SigNeverUptoCardSaid : Prop := Claim7.holds Tryd.pinned (.plain (OpenSpec.upto sigNeverSpec)) sigNeverUptoCard

/-- THE SECOND FORM's CARD OF 'marionettelaw21.SigActs'. -/
def sigActsUptoCard : Claim7 := { stood := { row := sigActsUptoRow, standIns := [], harness := (true, "90d68a2baafa0bac6db03998b296b836d74a882c2e1e0dec4a01c910bba5fdc7"), looks := false }, kinds := [], alts := [], laidByText := true, laidKinds := [.data], laidTests := true, laidLooks := .later }
def SigActsUptoCardSaid : Prop := Claim7.holds Tryd.pinned (.plain (OpenSpec.upto sigActsSpec)) sigActsUptoCard

/-- THE SECOND FORM's CARD OF 'marionettelaw21.SigNone'. -/
def sigNoneUptoCard : Claim7 := { stood := { row := sigNoneUptoRow, standIns := [], harness := (true, "90d68a2baafa0bac6db03998b296b836d74a882c2e1e0dec4a01c910bba5fdc7"), looks := false }, kinds := [], alts := [], laidByText := true, laidKinds := [.data], laidTests := true, laidLooks := .later }
def SigNoneUptoCardSaid : Prop := Claim7.holds Tryd.pinned (.plain (OpenSpec.upto sigNoneSpec)) sigNoneUptoCard
end Rows
end Go.Proofs.YtdlcejnkicdjnaaDoor
