/-
  DERIVED. GIVEN WITH THE SEED: THE CARDS: each row of YtejhcbbfdfnfdaaGreatDoorRows.lean that lists a variable, with what it lists TIED to the program's text (the seventh form; the later family's looks); each row that meets fmt, with fmt's text TOLD by the authors' own Lean function (tested against real Go, not proved from fmt's source: count such statements apart). THE CARD IS WHAT COUNTS. Prove the row's statement (the work); the ties are given (YtejhcbbfdfnfdaaGreatDoorTie.lean); close each card by the builder's one call (the guide's Derived/Test/ToyasCard.lean, 'card_holds'). Laid BY PROGRAM, IN A SANDBOX (cutbox-door.mjs). By AI agents, Wed Nov 11 2026. No macro, syntax, notation, axiom, sorry.
-/
import Derived.Test.YtejhcbbfdfnfdaaGreatDoorRows
import GoSem.ClaimSeven
namespace Go.Proofs.YtejhcbbfdfnfdaaGreatDoor
namespace Rows

/-- THE TIED CARD OF 'gangsawlaw59.YardReplays'. -/
def yardReplaysCard : Claim7 := { stood := { row := yardReplaysRow, standIns := [], harness := (true, "23b95a308cb6796547480a0628a294304fd159ea58ffe9f72bbbdea8c8684137"), looks := true }, kinds := [], alts := [], laidByText := true, laidKinds := [.data, .data, .data, .data, .sentinel, .sentinel, .pinned], laidTests := true, laidLooks := .later }
def YardReplaysCardSaid : Prop := Claim7.holds Tryz.pinned (.plain (OpenSpec.ofChange yardReplaysSpec)) yardReplaysCard

/-- THE TIED CARD OF 'gangsawlaw59.YardDisjoint'. -/
def yardDisjointCard : Claim7 := { stood := { row := yardDisjointRow, standIns := [], harness := (true, "23b95a308cb6796547480a0628a294304fd159ea58ffe9f72bbbdea8c8684137"), looks := true }, kinds := [], alts := [], laidByText := true, laidKinds := [.data, .data, .data, .data, .sentinel, .sentinel, .pinned], laidTests := true, laidLooks := .later }
def YardDisjointCardSaid : Prop := Claim7.holds Tryz.pinned (.plain (OpenSpec.ofChange yardDisjointSpec)) yardDisjointCard

/-- THE TIED CARD OF 'gangsawlaw59.YardAdds'. -/
def yardAddsCard : Claim7 := { stood := { row := yardAddsRow, standIns := [], harness := (true, "23b95a308cb6796547480a0628a294304fd159ea58ffe9f72bbbdea8c8684137"), looks := true }, kinds := [], alts := [], laidByText := true, laidKinds := [.data, .data, .data, .data, .sentinel, .sentinel, .pinned], laidTests := true, laidLooks := .later }
def YardAddsCardSaid : Prop := Claim7.holds Tryz.pinned (.plain (OpenSpec.ofChange yardAddsSpec)) yardAddsCard

/-- THE TIED CARD OF 'gangsawlaw59.YardKeeps'. -/
def yardKeepsCard : Claim7 := { stood := { row := yardKeepsRow, standIns := [], harness := (true, "23b95a308cb6796547480a0628a294304fd159ea58ffe9f72bbbdea8c8684137"), looks := true }, kinds := [], alts := [], laidByText := true, laidKinds := [.data, .data, .data, .data, .sentinel, .sentinel, .pinned], laidTests := true, laidLooks := .later }
def YardKeepsCardSaid : Prop := Claim7.holds Tryz.pinned (.plain (OpenSpec.ofChange yardKeepsSpec)) yardKeepsCard

/-- THE TIED CARD OF 'gangsawlaw59.YardBack'. -/
def yardBackCard : Claim7 := { stood := { row := yardBackRow, standIns := [], harness := (true, "23b95a308cb6796547480a0628a294304fd159ea58ffe9f72bbbdea8c8684137"), looks := true }, kinds := [], alts := [], laidByText := true, laidKinds := [.data, .data, .data, .data, .sentinel, .sentinel, .pinned], laidTests := true, laidLooks := .later }
def YardBackCardSaid : Prop := Claim7.holds Tryz.pinned (.plain (OpenSpec.ofChange yardBackSpec)) yardBackCard

/-- THE SECOND FORM's CARD OF 'gangsawlaw59.YardReplays'. -/
def yardReplaysUptoCard : Claim7 := { stood := { row := yardReplaysUptoRow, standIns := [], harness := (true, "23b95a308cb6796547480a0628a294304fd159ea58ffe9f72bbbdea8c8684137"), looks := true }, kinds := [], alts := [], laidByText := true, laidKinds := [.data, .data, .data, .data, .sentinel, .sentinel, .pinned], laidTests := true, laidLooks := .later }
def YardReplaysUptoCardSaid : Prop := Claim7.holds Tryz.pinned (.plain (OpenSpec.upto yardReplaysSpec)) yardReplaysUptoCard

/-- THE SECOND FORM's CARD OF 'gangsawlaw59.YardDisjoint'. -/
def yardDisjointUptoCard : Claim7 := { stood := { row := yardDisjointUptoRow, standIns := [], harness := (true, "23b95a308cb6796547480a0628a294304fd159ea58ffe9f72bbbdea8c8684137"), looks := true }, kinds := [], alts := [], laidByText := true, laidKinds := [.data, .data, .data, .data, .sentinel, .sentinel, .pinned], laidTests := true, laidLooks := .later }
def YardDisjointUptoCardSaid : Prop := Claim7.holds Tryz.pinned (.plain (OpenSpec.upto yardDisjointSpec)) yardDisjointUptoCard

/-- THE SECOND FORM's CARD OF 'gangsawlaw59.YardAdds'. -/
def yardAddsUptoCard : Claim7 := { stood := { row := yardAddsUptoRow, standIns := [], harness := (true, "23b95a308cb6796547480a0628a294304fd159ea58ffe9f72bbbdea8c8684137"), looks := true }, kinds := [], alts := [], laidByText := true, laidKinds := [.data, .data, .data, .data, .sentinel, .sentinel, .pinned], laidTests := true, laidLooks := .later }
def YardAddsUptoCardSaid : Prop := Claim7.holds Tryz.pinned (.plain (OpenSpec.upto yardAddsSpec)) yardAddsUptoCard

/-- THE SECOND FORM's CARD OF 'gangsawlaw59.YardKeeps'. -/
def yardKeepsUptoCard : Claim7 := { stood := { row := yardKeepsUptoRow, standIns := [], harness := (true, "23b95a308cb6796547480a0628a294304fd159ea58ffe9f72bbbdea8c8684137"), looks := true }, kinds := [], alts := [], laidByText := true, laidKinds := [.data, .data, .data, .data, .sentinel, .sentinel, .pinned], laidTests := true, laidLooks := .later }
def YardKeepsUptoCardSaid : Prop := Claim7.holds Tryz.pinned (.plain (OpenSpec.upto yardKeepsSpec)) yardKeepsUptoCard

/-- THE SECOND FORM's CARD OF 'gangsawlaw59.YardBack'. -/
def yardBackUptoCard : Claim7 := { stood := { row := yardBackUptoRow, standIns := [], harness := (true, "23b95a308cb6796547480a0628a294304fd159ea58ffe9f72bbbdea8c8684137"), looks := true }, kinds := [], alts := [], laidByText := true, laidKinds := [.data, .data, .data, .data, .sentinel, .sentinel, .pinned], laidTests := true, laidLooks := .later }
def YardBackUptoCardSaid : Prop := Claim7.holds Tryz.pinned (.plain (OpenSpec.upto yardBackSpec)) yardBackUptoCard
end Rows
end Go.Proofs.YtejhcbbfdfnfdaaGreatDoor
