/-
  DERIVED. GIVEN WITH THE SEED: THE CARDS: each row of YtmjmpnbnmcbngaaDoorRows.lean that lists a variable, with what it lists TIED to the program's text (the seventh form; the later family's looks); each row that meets fmt, with fmt's text TOLD by the authors' own Lean function (tested against real Go, not proved from fmt's source: count such statements apart). THE CARD IS WHAT COUNTS. Prove the row's statement (the work); the ties are given (YtmjmpnbnmcbngaaDoorTie.lean); close each card by the builder's one call (the guide's Derived/Test/ToyasCard.lean, 'card_holds'). Laid BY PROGRAM, IN A SANDBOX (cutbox-door.mjs). By AI agents, Wed Nov 11 2026. No macro, syntax, notation, axiom, sorry.
-/
import Derived.Test.YtmjmpnbnmcbngaaDoorRows
import GoSem.ClaimSeven
namespace Go.Proofs.YtmjmpnbnmcbngaaDoor
namespace Rows

/-- THE TIED CARD OF 'outriderlaw17.WordsWrites'. -/
def wordsWritesCard : Claim7 := { stood := { row := wordsWritesRow, standIns := [], harness := (true, "cbe6a17d7b5c6f0abe581a4cb726e48c2d2baef6a4845a978eeeba8710fb3712"), looks := false }, kinds := [], alts := [], laidByText := true, laidKinds := [.data, .data, .data, .data, .pinned], laidTests := true, laidLooks := .later }
def WordsWritesCardSaid : Prop := Claim7.holds Tryd.pinned (.plain (OpenSpec.ofChange wordsWritesSpec)) wordsWritesCard

/-- THE TIED CARD OF 'outriderlaw18.ConfigSpaced'. -/
def configSpacedCard : Claim7 := { stood := { row := configSpacedRow, standIns := [], harness := (true, "cbe6a17d7b5c6f0abe581a4cb726e48c2d2baef6a4845a978eeeba8710fb3712"), looks := false }, kinds := [], alts := [], laidByText := true, laidKinds := [.data, .data, .data, .data, .pinned], laidTests := true, laidLooks := .later }
def ConfigSpacedCardSaid : Prop := Claim7.holds Tryd.pinned (.plain (OpenSpec.ofChange configSpacedSpec)) configSpacedCard

/-- THE TIED CARD OF 'outriderlaw18.ConfigNeeds'. -/
def configNeedsCard : Claim7 := { stood := { row := configNeedsRow, standIns := [], harness := (true, "cbe6a17d7b5c6f0abe581a4cb726e48c2d2baef6a4845a978eeeba8710fb3712"), looks := false }, kinds := [], alts := [], laidByText := true, laidKinds := [.data, .data, .data, .data, .pinned], laidTests := true, laidLooks := .later }
def ConfigNeedsCardSaid : Prop := Claim7.holds Tryd.pinned (.plain (OpenSpec.ofChange configNeedsSpec)) configNeedsCard

/-- THE TIED CARD OF 'outriderlaw18.ConfigTwice'. -/
def configTwiceCard : Claim7 := { stood := { row := configTwiceRow, standIns := [], harness := (true, "cbe6a17d7b5c6f0abe581a4cb726e48c2d2baef6a4845a978eeeba8710fb3712"), looks := false }, kinds := [], alts := [], laidByText := true, laidKinds := [.data, .data, .data, .data, .pinned], laidTests := true, laidLooks := .later }
def ConfigTwiceCardSaid : Prop := Claim7.holds Tryd.pinned (.plain (OpenSpec.ofChange configTwiceSpec)) configTwiceCard

/-- THE SECOND FORM's CARD OF 'outriderlaw17.WordsWrites'. -/
def wordsWritesUptoCard : Claim7 := { stood := { row := wordsWritesUptoRow, standIns := [], harness := (true, "cbe6a17d7b5c6f0abe581a4cb726e48c2d2baef6a4845a978eeeba8710fb3712"), looks := false }, kinds := [], alts := [], laidByText := true, laidKinds := [.data, .data, .data, .data, .pinned], laidTests := true, laidLooks := .later }
def WordsWritesUptoCardSaid : Prop := Claim7.holds Tryd.pinned (.plain (OpenSpec.upto wordsWritesSpec)) wordsWritesUptoCard

/-- THE SECOND FORM's CARD OF 'outriderlaw18.ConfigSpaced'. -/
def configSpacedUptoCard : Claim7 := { stood := { row := configSpacedUptoRow, standIns := [], harness := (true, "cbe6a17d7b5c6f0abe581a4cb726e48c2d2baef6a4845a978eeeba8710fb3712"), looks := false }, kinds := [], alts := [], laidByText := true, laidKinds := [.data, .data, .data, .data, .pinned], laidTests := true, laidLooks := .later }
def ConfigSpacedUptoCardSaid : Prop := Claim7.holds Tryd.pinned (.plain (OpenSpec.upto configSpacedSpec)) configSpacedUptoCard

/-- THE SECOND FORM's CARD OF 'outriderlaw18.ConfigNeeds'. -/
def configNeedsUptoCard : Claim7 := { stood := { row := configNeedsUptoRow, standIns := [], harness := (true, "cbe6a17d7b5c6f0abe581a4cb726e48c2d2baef6a4845a978eeeba8710fb3712"), looks := false }, kinds := [], alts := [], laidByText := true, laidKinds := [.data, .data, .data, .data, .pinned], laidTests := true, laidLooks := .later }
def ConfigNeedsUptoCardSaid : Prop := Claim7.holds Tryd.pinned (.plain (OpenSpec.upto configNeedsSpec)) configNeedsUptoCard

/-- THE SECOND FORM's CARD OF 'outriderlaw18.ConfigTwice'. -/
def configTwiceUptoCard : Claim7 := { stood := { row := configTwiceUptoRow, standIns := [], harness := (true, "cbe6a17d7b5c6f0abe581a4cb726e48c2d2baef6a4845a978eeeba8710fb3712"), looks := false }, kinds := [], alts := [], laidByText := true, laidKinds := [.data, .data, .data, .data, .pinned], laidTests := true, laidLooks := .later }
def ConfigTwiceUptoCardSaid : Prop := Claim7.holds Tryd.pinned (.plain (OpenSpec.upto configTwiceSpec)) configTwiceUptoCard
end Rows
end Go.Proofs.YtmjmpnbnmcbngaaDoor
