/-
  DERIVED. GIVEN WITH THE SEED: THE CARDS: each row of YtpjknkembghjcaaDoorRows.lean that lists a variable, with what it lists TIED to the program's text (the seventh form; the later family's looks); each row that meets fmt, with fmt's text TOLD by the authors' own Lean function (tested against real Go, not proved from fmt's source: count such statements apart). THE CARD IS WHAT COUNTS. Prove the row's statement (the work); the ties are given (YtpjknkembghjcaaDoorTie.lean); close each card by the builder's one call (the guide's Derived/Test/ToyasCard.lean, 'card_holds'). Laid BY PROGRAM, IN A SANDBOX (cutbox-door.mjs). By AI agents, Wed Nov 11 2026. No macro, syntax, notation, axiom, sorry.
-/
import Derived.Test.YtpjknkembghjcaaDoorRows
import GoSem.ClaimSeven
namespace Go.Proofs.YtpjknkembghjcaaDoor
namespace Rows

/-- THE TIED CARD OF 'klippelaw01.IntegerParses'. -/
def integerParsesCard : Claim7 := { stood := { row := integerParsesRow, standIns := [], harness := (true, "1bbde1f9d49ff9097c61a04a04b361c936bd9ae00a9cc7fcf810da5a5bc58420"), looks := true }, kinds := [], alts := [], laidByText := true, laidKinds := [.data, .data, .data, .data, .sentinel, .sentinel, .pinned], laidTests := true, laidLooks := .later }
def IntegerParsesCardSaid : Prop := Claim7.holds Tryd.pinned (.plain (OpenSpec.ofChange integerParsesSpec)) integerParsesCard

/-- THE TIED CARD OF 'klippelaw01.IntegerProducts'. -/
def integerProductsCard : Claim7 := { stood := { row := integerProductsRow, standIns := [], harness := (true, "1bbde1f9d49ff9097c61a04a04b361c936bd9ae00a9cc7fcf810da5a5bc58420"), looks := true }, kinds := [], alts := [], laidByText := true, laidKinds := [.data, .data, .data, .data, .sentinel, .sentinel, .pinned], laidTests := true, laidLooks := .later }
def IntegerProductsCardSaid : Prop := Claim7.holds Tryd.pinned (.plain (OpenSpec.ofChange integerProductsSpec)) integerProductsCard

/-- THE TIED CARD OF 'klippelaw01.IntegerSmall'. -/
def integerSmallCard : Claim7 := { stood := { row := integerSmallRow, standIns := [], harness := (true, "1bbde1f9d49ff9097c61a04a04b361c936bd9ae00a9cc7fcf810da5a5bc58420"), looks := true }, kinds := [], alts := [], laidByText := true, laidKinds := [.data, .data, .data, .data, .sentinel, .sentinel, .pinned], laidTests := true, laidLooks := .later }
def IntegerSmallCardSaid : Prop := Claim7.holds Tryd.pinned (.plain (OpenSpec.ofChange integerSmallSpec)) integerSmallCard

/-- THE TIED CARD OF 'klippelaw01.IntegerChecks'. -/
def integerChecksCard : Claim7 := { stood := { row := integerChecksRow, standIns := [], harness := (true, "1bbde1f9d49ff9097c61a04a04b361c936bd9ae00a9cc7fcf810da5a5bc58420"), looks := true }, kinds := [], alts := [], laidByText := true, laidKinds := [.data, .data, .data, .data, .sentinel, .sentinel, .pinned], laidTests := true, laidLooks := .later }
def IntegerChecksCardSaid : Prop := Claim7.holds Tryd.pinned (.plain (OpenSpec.ofChange integerChecksSpec)) integerChecksCard

/-- THE TIED CARD OF 'klippelaw01.IntegerRemains'. -/
def integerRemainsCard : Claim7 := { stood := { row := integerRemainsRow, standIns := [], harness := (true, "1bbde1f9d49ff9097c61a04a04b361c936bd9ae00a9cc7fcf810da5a5bc58420"), looks := true }, kinds := [], alts := [], laidByText := true, laidKinds := [.data, .data, .data, .data, .sentinel, .sentinel, .pinned], laidTests := true, laidLooks := .later }
def IntegerRemainsCardSaid : Prop := Claim7.holds Tryd.pinned (.plain (OpenSpec.ofChange integerRemainsSpec)) integerRemainsCard

/-- THE TIED CARD OF 'klippelaw01.IntegerLaws'. -/
def integerLawsCard : Claim7 := { stood := { row := integerLawsRow, standIns := [], harness := (true, "1bbde1f9d49ff9097c61a04a04b361c936bd9ae00a9cc7fcf810da5a5bc58420"), looks := true }, kinds := [], alts := [], laidByText := true, laidKinds := [.data, .data, .data, .data, .sentinel, .sentinel, .pinned], laidTests := true, laidLooks := .later }
def IntegerLawsCardSaid : Prop := Claim7.holds Tryd.pinned (.plain (OpenSpec.ofChange integerLawsSpec)) integerLawsCard

/-- THE SECOND FORM's CARD OF 'klippelaw01.IntegerParses'. -/
def integerParsesUptoCard : Claim7 := { stood := { row := integerParsesUptoRow, standIns := [], harness := (true, "1bbde1f9d49ff9097c61a04a04b361c936bd9ae00a9cc7fcf810da5a5bc58420"), looks := true }, kinds := [], alts := [], laidByText := true, laidKinds := [.data, .data, .data, .data, .sentinel, .sentinel, .pinned], laidTests := true, laidLooks := .later }
def IntegerParsesUptoCardSaid : Prop := Claim7.holds Tryd.pinned (.plain (OpenSpec.upto integerParsesSpec)) integerParsesUptoCard

/-- THE SECOND FORM's CARD OF 'klippelaw01.IntegerProducts'. -/
def integerProductsUptoCard : Claim7 := { stood := { row := integerProductsUptoRow, standIns := [], harness := (true, "1bbde1f9d49ff9097c61a04a04b361c936bd9ae00a9cc7fcf810da5a5bc58420"), looks := true }, kinds := [], alts := [], laidByText := true, laidKinds := [.data, .data, .data, .data, .sentinel, .sentinel, .pinned], laidTests := true, laidLooks := .later }
def IntegerProductsUptoCardSaid : Prop := Claim7.holds Tryd.pinned (.plain (OpenSpec.upto integerProductsSpec)) integerProductsUptoCard

/-- THE SECOND FORM's CARD OF 'klippelaw01.IntegerSmall'. -/
def integerSmallUptoCard : Claim7 := { stood := { row := integerSmallUptoRow, standIns := [], harness := (true, "1bbde1f9d49ff9097c61a04a04b361c936bd9ae00a9cc7fcf810da5a5bc58420"), looks := true }, kinds := [], alts := [], laidByText := true, laidKinds := [.data, .data, .data, .data, .sentinel, .sentinel, .pinned], laidTests := true, laidLooks := .later }
def IntegerSmallUptoCardSaid : Prop := Claim7.holds Tryd.pinned (.plain (OpenSpec.upto integerSmallSpec)) integerSmallUptoCard

/-- THE SECOND FORM's CARD OF 'klippelaw01.IntegerChecks'. -/
def integerChecksUptoCard : Claim7 := { stood := { row := integerChecksUptoRow, standIns := [], harness := (true, "1bbde1f9d49ff9097c61a04a04b361c936bd9ae00a9cc7fcf810da5a5bc58420"), looks := true }, kinds := [], alts := [], laidByText := true, laidKinds := [.data, .data, .data, .data, .sentinel, .sentinel, .pinned], laidTests := true, laidLooks := .later }
def IntegerChecksUptoCardSaid : Prop := Claim7.holds Tryd.pinned (.plain (OpenSpec.upto integerChecksSpec)) integerChecksUptoCard

/-- THE SECOND FORM's CARD OF 'klippelaw01.IntegerRemains'. -/
def integerRemainsUptoCard : Claim7 := { stood := { row := integerRemainsUptoRow, standIns := [], harness := (true, "1bbde1f9d49ff9097c61a04a04b361c936bd9ae00a9cc7fcf810da5a5bc58420"), looks := true }, kinds := [], alts := [], laidByText := true, laidKinds := [.data, .data, .data, .data, .sentinel, .sentinel, .pinned], laidTests := true, laidLooks := .later }
def IntegerRemainsUptoCardSaid : Prop := Claim7.holds Tryd.pinned (.plain (OpenSpec.upto integerRemainsSpec)) integerRemainsUptoCard

/-- THE SECOND FORM's CARD OF 'klippelaw01.IntegerLaws'. -/
def integerLawsUptoCard : Claim7 := { stood := { row := integerLawsUptoRow, standIns := [], harness := (true, "1bbde1f9d49ff9097c61a04a04b361c936bd9ae00a9cc7fcf810da5a5bc58420"), looks := true }, kinds := [], alts := [], laidByText := true, laidKinds := [.data, .data, .data, .data, .sentinel, .sentinel, .pinned], laidTests := true, laidLooks := .later }
def IntegerLawsUptoCardSaid : Prop := Claim7.holds Tryd.pinned (.plain (OpenSpec.upto integerLawsSpec)) integerLawsUptoCard
end Rows
end Go.Proofs.YtpjknkembghjcaaDoor
