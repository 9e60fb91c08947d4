/-
  DERIVED. GIVEN WITH THE SEED: THE CARDS: each row of YtlcgkpapnpdfpaaDoorRows.lean that lists a variable, with what it lists TIED to the program's text (the seventh form; the later family's looks); each row that meets fmt, with fmt's text TOLD by the authors' own Lean function (tested against real Go, not proved from fmt's source: count such statements apart). THE CARD IS WHAT COUNTS. Prove the row's statement (the work); the ties are given (YtlcgkpapnpdfpaaDoorTie.lean); close each card by the builder's one call (the guide's Derived/Test/ToyasCard.lean, 'card_holds'). Laid BY PROGRAM, IN A SANDBOX (cutbox-door.mjs). By AI agents, Wed Nov 11 2026. No macro, syntax, notation, axiom, sorry.
-/
import Derived.Test.YtlcgkpapnpdfpaaDoorRows
import GoSem.ClaimSeven
namespace Go.Proofs.YtlcgkpapnpdfpaaDoor
namespace Rows

/-- THE TIED CARD OF 'carillonlaw04.BitsPlays'. -/
def bitsPlaysCard : Claim7 := { stood := { row := bitsPlaysRow, standIns := [], harness := (true, "f8b5f5d76e43a5ca73fdad60881a3e69758271f4f03714ae207a91cd900c93db"), looks := true }, kinds := [], alts := [], goes := true, laidByText := true, laidKinds := [.data], laidTests := true, laidLooks := .later }
def BitsPlaysCardSaid : Prop := Claim7.holds Tryd.pinned (.plain (OpenSpec.ofChange bitsPlaysSpec)) bitsPlaysCard

/-- THE TIED CARD OF 'carillonlaw04.BitsCalls'. -/
def bitsCallsCard : Claim7 := { stood := { row := bitsCallsRow, standIns := [], harness := (true, "f8b5f5d76e43a5ca73fdad60881a3e69758271f4f03714ae207a91cd900c93db"), looks := true }, kinds := [], alts := [], goes := true, laidByText := true, laidKinds := [.data], laidTests := true, laidLooks := .later }
def BitsCallsCardSaid : Prop := Claim7.holds Tryd.pinned (.plain (OpenSpec.ofChange bitsCallsSpec)) bitsCallsCard

/-- THE TIED CARD OF 'carillonlaw04.BitsNil'. -/
def bitsNilCard : Claim7 := { stood := { row := bitsNilRow, standIns := [], harness := (true, "f8b5f5d76e43a5ca73fdad60881a3e69758271f4f03714ae207a91cd900c93db"), looks := true }, kinds := [], alts := [], goes := true, laidByText := true, laidKinds := [.data], laidTests := true, laidLooks := .later }
def BitsNilCardSaid : Prop := Claim7.holds Tryd.pinned (.plain (OpenSpec.ofChange bitsNilSpec)) bitsNilCard

/-- THE TIED CARD OF 'carillonlaw04.BitsClaims'. -/
def bitsClaimsCard : Claim7 := { stood := { row := bitsClaimsRow, standIns := [], harness := (true, "f8b5f5d76e43a5ca73fdad60881a3e69758271f4f03714ae207a91cd900c93db"), looks := true }, kinds := [], alts := [], goes := true, laidByText := true, laidKinds := [.data], laidTests := true, laidLooks := .later }
def BitsClaimsCardSaid : Prop := Claim7.holds Tryd.pinned (.plain (OpenSpec.ofChange bitsClaimsSpec)) bitsClaimsCard

/-- THE SECOND FORM's CARD OF 'carillonlaw04.BitsPlays'. -/
def bitsPlaysUptoCard : Claim7 := { stood := { row := bitsPlaysUptoRow, standIns := [], harness := (true, "f8b5f5d76e43a5ca73fdad60881a3e69758271f4f03714ae207a91cd900c93db"), looks := true }, kinds := [], alts := [], goes := true, laidByText := true, laidKinds := [.data], laidTests := true, laidLooks := .later }
def BitsPlaysUptoCardSaid : Prop := Claim7.holds Tryd.pinned (.plain (OpenSpec.upto bitsPlaysSpec)) bitsPlaysUptoCard

/-- THE SECOND FORM's CARD OF 'carillonlaw04.BitsCalls'. -/
def bitsCallsUptoCard : Claim7 := { stood := { row := bitsCallsUptoRow, standIns := [], harness := (true, "f8b5f5d76e43a5ca73fdad60881a3e69758271f4f03714ae207a91cd900c93db"), looks := true }, kinds := [], alts := [], goes := true, laidByText := true, laidKinds := [.data], laidTests := true, laidLooks := .later }
def BitsCallsUptoCardSaid : Prop := Claim7.holds Tryd.pinned (.plain (OpenSpec.upto bitsCallsSpec)) bitsCallsUptoCard

/-- THE SECOND FORM's CARD OF 'carillonlaw04.BitsNil'. -/
def bitsNilUptoCard : Claim7 := { stood := { row := bitsNilUptoRow, standIns := [], harness := (true, "f8b5f5d76e43a5ca73fdad60881a3e69758271f4f03714ae207a91cd900c93db"), looks := true }, kinds := [], alts := [], goes := true, laidByText := true, laidKinds := [.data], laidTests := true, laidLooks := .later }
def BitsNilUptoCardSaid : Prop := Claim7.holds Tryd.pinned (.plain (OpenSpec.upto bitsNilSpec)) bitsNilUptoCard

/-- THE SECOND FORM's CARD OF 'carillonlaw04.BitsClaims'. -/
def bitsClaimsUptoCard : Claim7 := { stood := { row := bitsClaimsUptoRow, standIns := [], harness := (true, "f8b5f5d76e43a5ca73fdad60881a3e69758271f4f03714ae207a91cd900c93db"), looks := true }, kinds := [], alts := [], goes := true, laidByText := true, laidKinds := [.data], laidTests := true, laidLooks := .later }
def BitsClaimsUptoCardSaid : Prop := Claim7.holds Tryd.pinned (.plain (OpenSpec.upto bitsClaimsSpec)) bitsClaimsUptoCard
end Rows
end Go.Proofs.YtlcgkpapnpdfpaaDoor
