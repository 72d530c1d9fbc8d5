/-
  DERIVED. GIVEN WITH THE SEED: THE CARDS: each row of YtpjknkembghjcaaGreatDoorRows.lean that lists a variable, with what it lists TIED to the program's text (the seventh form; the later family's looks); each row that meets fmt, with fmt's text TOLD by the authors' own Lean function (tested against real Go, not proved from fmt's source: count such statements apart). THE CARD IS WHAT COUNTS. Prove the row's statement (the work); the ties are given (YtpjknkembghjcaaGreatDoorTie.lean); close each card by the builder's one call (the guide's Derived/Test/ToyasCard.lean, 'card_holds'). Laid BY PROGRAM, IN A SANDBOX (cutbox-door.mjs). By AI agents, Wed Nov 11 2026. No macro, syntax, notation, axiom, sorry.
-/
import Derived.Test.YtpjknkembghjcaaGreatDoorRows
import GoSem.ClaimSeven
namespace Go.Proofs.YtpjknkembghjcaaGreatDoor
namespace Rows

/-- THE TIED CARD OF 'klippelaw01.IntegerDivides'. -/
def integerDividesCard : Claim7 := { stood := { row := integerDividesRow, standIns := [], harness := (true, "42bb0bd18d8659f85ca24f2005ecba34303dc51ca49e8e5cee83acccd5af107e"), looks := true }, kinds := [], alts := [], laidByText := true, laidKinds := [.data, .data, .data, .data, .sentinel, .sentinel, .pinned], laidTests := true, laidLooks := .later }
def IntegerDividesCardSaid : Prop := Claim7.holds Tryz.pinned (.plain (OpenSpec.ofChange integerDividesSpec)) integerDividesCard

/-- THE TIED CARD OF 'klippelaw01.IntegerGcds'. -/
def integerGcdsCard : Claim7 := { stood := { row := integerGcdsRow, standIns := [], harness := (true, "42bb0bd18d8659f85ca24f2005ecba34303dc51ca49e8e5cee83acccd5af107e"), looks := true }, kinds := [], alts := [], laidByText := true, laidKinds := [.data, .data, .data, .data, .sentinel, .sentinel, .pinned], laidTests := true, laidLooks := .later }
def IntegerGcdsCardSaid : Prop := Claim7.holds Tryz.pinned (.plain (OpenSpec.ofChange integerGcdsSpec)) integerGcdsCard

/-- THE TIED CARD OF 'klippelaw01.IntegerRoots'. -/
def integerRootsCard : Claim7 := { stood := { row := integerRootsRow, standIns := [], harness := (true, "42bb0bd18d8659f85ca24f2005ecba34303dc51ca49e8e5cee83acccd5af107e"), looks := true }, kinds := [], alts := [], laidByText := true, laidKinds := [.data, .data, .data, .data, .sentinel, .sentinel, .pinned], laidTests := true, laidLooks := .later }
def IntegerRootsCardSaid : Prop := Claim7.holds Tryz.pinned (.plain (OpenSpec.ofChange integerRootsSpec)) integerRootsCard

/-- THE TIED CARD OF 'klippelaw01.IntegerPowers'. -/
def integerPowersCard : Claim7 := { stood := { row := integerPowersRow, standIns := [], harness := (true, "42bb0bd18d8659f85ca24f2005ecba34303dc51ca49e8e5cee83acccd5af107e"), looks := true }, kinds := [], alts := [], laidByText := true, laidKinds := [.data, .data, .data, .data, .sentinel, .sentinel, .pinned], laidTests := true, laidLooks := .later }
def IntegerPowersCardSaid : Prop := Claim7.holds Tryz.pinned (.plain (OpenSpec.ofChange integerPowersSpec)) integerPowersCard

/-- THE TIED CARD OF 'klippelaw01.IntegerSums'. -/
def integerSumsCard : Claim7 := { stood := { row := integerSumsRow, standIns := [], harness := (true, "42bb0bd18d8659f85ca24f2005ecba34303dc51ca49e8e5cee83acccd5af107e"), looks := true }, kinds := [], alts := [], laidByText := true, laidKinds := [.data, .data, .data, .data, .sentinel, .sentinel, .pinned], laidTests := true, laidLooks := .later }
def IntegerSumsCardSaid : Prop := Claim7.holds Tryz.pinned (.plain (OpenSpec.ofChange integerSumsSpec)) integerSumsCard

/-- THE TIED CARD OF 'klippelaw01.IntegerSigns'. -/
def integerSignsCard : Claim7 := { stood := { row := integerSignsRow, standIns := [], harness := (true, "42bb0bd18d8659f85ca24f2005ecba34303dc51ca49e8e5cee83acccd5af107e"), looks := true }, kinds := [], alts := [], laidByText := true, laidKinds := [.data, .data, .data, .data, .sentinel, .sentinel, .pinned], laidTests := true, laidLooks := .later }
def IntegerSignsCardSaid : Prop := Claim7.holds Tryz.pinned (.plain (OpenSpec.ofChange integerSignsSpec)) integerSignsCard

/-- THE SECOND FORM's CARD OF 'klippelaw01.IntegerDivides'. -/
def integerDividesUptoCard : Claim7 := { stood := { row := integerDividesUptoRow, standIns := [], harness := (true, "42bb0bd18d8659f85ca24f2005ecba34303dc51ca49e8e5cee83acccd5af107e"), looks := true }, kinds := [], alts := [], laidByText := true, laidKinds := [.data, .data, .data, .data, .sentinel, .sentinel, .pinned], laidTests := true, laidLooks := .later }
def IntegerDividesUptoCardSaid : Prop := Claim7.holds Tryz.pinned (.plain (OpenSpec.upto integerDividesSpec)) integerDividesUptoCard

/-- THE SECOND FORM's CARD OF 'klippelaw01.IntegerGcds'. -/
def integerGcdsUptoCard : Claim7 := { stood := { row := integerGcdsUptoRow, standIns := [], harness := (true, "42bb0bd18d8659f85ca24f2005ecba34303dc51ca49e8e5cee83acccd5af107e"), looks := true }, kinds := [], alts := [], laidByText := true, laidKinds := [.data, .data, .data, .data, .sentinel, .sentinel, .pinned], laidTests := true, laidLooks := .later }
def IntegerGcdsUptoCardSaid : Prop := Claim7.holds Tryz.pinned (.plain (OpenSpec.upto integerGcdsSpec)) integerGcdsUptoCard

/-- THE SECOND FORM's CARD OF 'klippelaw01.IntegerRoots'. -/
def integerRootsUptoCard : Claim7 := { stood := { row := integerRootsUptoRow, standIns := [], harness := (true, "42bb0bd18d8659f85ca24f2005ecba34303dc51ca49e8e5cee83acccd5af107e"), looks := true }, kinds := [], alts := [], laidByText := true, laidKinds := [.data, .data, .data, .data, .sentinel, .sentinel, .pinned], laidTests := true, laidLooks := .later }
def IntegerRootsUptoCardSaid : Prop := Claim7.holds Tryz.pinned (.plain (OpenSpec.upto integerRootsSpec)) integerRootsUptoCard

/-- THE SECOND FORM's CARD OF 'klippelaw01.IntegerPowers'. -/
def integerPowersUptoCard : Claim7 := { stood := { row := integerPowersUptoRow, standIns := [], harness := (true, "42bb0bd18d8659f85ca24f2005ecba34303dc51ca49e8e5cee83acccd5af107e"), looks := true }, kinds := [], alts := [], laidByText := true, laidKinds := [.data, .data, .data, .data, .sentinel, .sentinel, .pinned], laidTests := true, laidLooks := .later }
def IntegerPowersUptoCardSaid : Prop := Claim7.holds Tryz.pinned (.plain (OpenSpec.upto integerPowersSpec)) integerPowersUptoCard

/-- THE SECOND FORM's CARD OF 'klippelaw01.IntegerSums'. -/
def integerSumsUptoCard : Claim7 := { stood := { row := integerSumsUptoRow, standIns := [], harness := (true, "42bb0bd18d8659f85ca24f2005ecba34303dc51ca49e8e5cee83acccd5af107e"), looks := true }, kinds := [], alts := [], laidByText := true, laidKinds := [.data, .data, .data, .data, .sentinel, .sentinel, .pinned], laidTests := true, laidLooks := .later }
def IntegerSumsUptoCardSaid : Prop := Claim7.holds Tryz.pinned (.plain (OpenSpec.upto integerSumsSpec)) integerSumsUptoCard

/-- THE SECOND FORM's CARD OF 'klippelaw01.IntegerSigns'. -/
def integerSignsUptoCard : Claim7 := { stood := { row := integerSignsUptoRow, standIns := [], harness := (true, "42bb0bd18d8659f85ca24f2005ecba34303dc51ca49e8e5cee83acccd5af107e"), looks := true }, kinds := [], alts := [], laidByText := true, laidKinds := [.data, .data, .data, .data, .sentinel, .sentinel, .pinned], laidTests := true, laidLooks := .later }
def IntegerSignsUptoCardSaid : Prop := Claim7.holds Tryz.pinned (.plain (OpenSpec.upto integerSignsSpec)) integerSignsUptoCard
end Rows
end Go.Proofs.YtpjknkembghjcaaGreatDoor
