/-
  DERIVED. GIVEN WITH THE SEED: THE CARDS: each row of YtlijdbgknbeefaaDoorRows.lean that lists a variable, with what it lists TIED to the program's text (the seventh form; the later family's looks); each row that meets fmt, with fmt's text TOLD by the authors' own Lean function (tested against real Go, not proved from fmt's source: count such statements apart). THE CARD IS WHAT COUNTS. Prove the row's statement (the work); the ties are given (YtlijdbgknbeefaaDoorTie.lean); close each card by the builder's one call (the guide's Derived/Test/ToyasCard.lean, 'card_holds'). Laid BY PROGRAM, IN A SANDBOX (cutbox-door.mjs). By AI agents, Wed Nov 11 2026. No macro, syntax, notation, axiom, sorry.
-/
import Derived.Test.YtlijdbgknbeefaaDoorRows
import GoSem.ClaimSeven
namespace Go.Proofs.YtlijdbgknbeefaaDoor
namespace Rows

/-- THE TIED CARD OF 'assizelaw01.CalendarDaySpec'. -/
def calendarDaySpecCard : Claim7 := { stood := { row := calendarDaySpecRow, standIns := [], harness := (true, "ecf52cd2f0e00eeb5a9e4ad7f568b0262762c417b538ca74502acb76cf8551ff"), looks := false }, kinds := [], alts := [], laidByText := true, laidKinds := [.data], laidTests := true, laidLooks := .later }
def CalendarDaySpecCardSaid : Prop := Claim7.holds Tryd.pinned (.plain (OpenSpec.ofChange calendarDaySpecSpec)) calendarDaySpecCard

/-- THE TIED CARD OF 'assizelaw01.CalendarInverse'. -/
def calendarInverseCard : Claim7 := { stood := { row := calendarInverseRow, standIns := [], harness := (true, "ecf52cd2f0e00eeb5a9e4ad7f568b0262762c417b538ca74502acb76cf8551ff"), looks := false }, kinds := [], alts := [], laidByText := true, laidKinds := [.data], laidTests := true, laidLooks := .later }
def CalendarInverseCardSaid : Prop := Claim7.holds Tryd.pinned (.plain (OpenSpec.ofChange calendarInverseSpec)) calendarInverseCard

/-- THE TIED CARD OF 'assizelaw01.CalendarOrder'. -/
def calendarOrderCard : Claim7 := { stood := { row := calendarOrderRow, standIns := [], harness := (true, "ecf52cd2f0e00eeb5a9e4ad7f568b0262762c417b538ca74502acb76cf8551ff"), looks := false }, kinds := [], alts := [], laidByText := true, laidKinds := [.data], laidTests := true, laidLooks := .later }
def CalendarOrderCardSaid : Prop := Claim7.holds Tryd.pinned (.plain (OpenSpec.ofChange calendarOrderSpec)) calendarOrderCard

/-- THE TIED CARD OF 'assizelaw01.CalendarWeeks'. -/
def calendarWeeksCard : Claim7 := { stood := { row := calendarWeeksRow, standIns := [], harness := (true, "ecf52cd2f0e00eeb5a9e4ad7f568b0262762c417b538ca74502acb76cf8551ff"), looks := false }, kinds := [], alts := [], laidByText := true, laidKinds := [.data], laidTests := true, laidLooks := .later }
def CalendarWeeksCardSaid : Prop := Claim7.holds Tryd.pinned (.plain (OpenSpec.ofChange calendarWeeksSpec)) calendarWeeksCard

/-- THE TIED CARD OF 'assizelaw01.CalendarPoints'. -/
def calendarPointsCard : Claim7 := { stood := { row := calendarPointsRow, standIns := [], harness := (true, "ecf52cd2f0e00eeb5a9e4ad7f568b0262762c417b538ca74502acb76cf8551ff"), looks := false }, kinds := [], alts := [], laidByText := true, laidKinds := [.data], laidTests := true, laidLooks := .later }
def CalendarPointsCardSaid : Prop := Claim7.holds Tryd.pinned (.plain (OpenSpec.ofChange calendarPointsSpec)) calendarPointsCard

/-- THE TIED CARD OF 'assizelaw01.CalendarListSpec'. -/
def calendarListSpecCard : Claim7 := { stood := { row := calendarListSpecRow, standIns := [], harness := (true, "ecf52cd2f0e00eeb5a9e4ad7f568b0262762c417b538ca74502acb76cf8551ff"), looks := false }, kinds := [], alts := [], laidByText := true, laidKinds := [.data], laidTests := true, laidLooks := .later }
def CalendarListSpecCardSaid : Prop := Claim7.holds Tryd.pinned (.plain (OpenSpec.ofChange calendarListSpecSpec)) calendarListSpecCard

/-- THE TIED CARD OF 'assizelaw01.CalendarMeets'. -/
def calendarMeetsCard : Claim7 := { stood := { row := calendarMeetsRow, standIns := [], harness := (true, "ecf52cd2f0e00eeb5a9e4ad7f568b0262762c417b538ca74502acb76cf8551ff"), looks := false }, kinds := [], alts := [], laidByText := true, laidKinds := [.data], laidTests := true, laidLooks := .later }
def CalendarMeetsCardSaid : Prop := Claim7.holds Tryd.pinned (.plain (OpenSpec.ofChange calendarMeetsSpec)) calendarMeetsCard

/-- THE SECOND FORM's CARD OF 'assizelaw01.CalendarDaySpec'. -/
def calendarDaySpecUptoCard : Claim7 := { stood := { row := calendarDaySpecUptoRow, standIns := [], harness := (true, "ecf52cd2f0e00eeb5a9e4ad7f568b0262762c417b538ca74502acb76cf8551ff"), looks := false }, kinds := [], alts := [], laidByText := true, laidKinds := [.data], laidTests := true, laidLooks := .later }
def CalendarDaySpecUptoCardSaid : Prop := Claim7.holds Tryd.pinned (.plain (OpenSpec.upto calendarDaySpecSpec)) calendarDaySpecUptoCard

/-- THE SECOND FORM's CARD OF 'assizelaw01.CalendarInverse'. -/
def calendarInverseUptoCard : Claim7 := { stood := { row := calendarInverseUptoRow, standIns := [], harness := (true, "ecf52cd2f0e00eeb5a9e4ad7f568b0262762c417b538ca74502acb76cf8551ff"), looks := false }, kinds := [], alts := [], laidByText := true, laidKinds := [.data], laidTests := true, laidLooks := .later }
def CalendarInverseUptoCardSaid : Prop := Claim7.holds Tryd.pinned (.plain (OpenSpec.upto calendarInverseSpec)) calendarInverseUptoCard

/-- THE SECOND FORM's CARD OF 'assizelaw01.CalendarOrder'. -/
def calendarOrderUptoCard : Claim7 := { stood := { row := calendarOrderUptoRow, standIns := [], harness := (true, "ecf52cd2f0e00eeb5a9e4ad7f568b0262762c417b538ca74502acb76cf8551ff"), looks := false }, kinds := [], alts := [], laidByText := true, laidKinds := [.data], laidTests := true, laidLooks := .later }
def CalendarOrderUptoCardSaid : Prop := Claim7.holds Tryd.pinned (.plain (OpenSpec.upto calendarOrderSpec)) calendarOrderUptoCard

/-- THE SECOND FORM's CARD OF 'assizelaw01.CalendarWeeks'. -/
def calendarWeeksUptoCard : Claim7 := { stood := { row := calendarWeeksUptoRow, standIns := [], harness := (true, "ecf52cd2f0e00eeb5a9e4ad7f568b0262762c417b538ca74502acb76cf8551ff"), looks := false }, kinds := [], alts := [], laidByText := true, laidKinds := [.data], laidTests := true, laidLooks := .later }
def CalendarWeeksUptoCardSaid : Prop := Claim7.holds Tryd.pinned (.plain (OpenSpec.upto calendarWeeksSpec)) calendarWeeksUptoCard

/-- THE SECOND FORM's CARD OF 'assizelaw01.CalendarPoints'. -/
def calendarPointsUptoCard : Claim7 := { stood := { row := calendarPointsUptoRow, standIns := [], harness := (true, "ecf52cd2f0e00eeb5a9e4ad7f568b0262762c417b538ca74502acb76cf8551ff"), looks := false }, kinds := [], alts := [], laidByText := true, laidKinds := [.data], laidTests := true, laidLooks := .later }
def CalendarPointsUptoCardSaid : Prop := Claim7.holds Tryd.pinned (.plain (OpenSpec.upto calendarPointsSpec)) calendarPointsUptoCard

/-- THE SECOND FORM's CARD OF 'assizelaw01.CalendarListSpec'. -/
def calendarListSpecUptoCard : Claim7 := { stood := { row := calendarListSpecUptoRow, standIns := [], harness := (true, "ecf52cd2f0e00eeb5a9e4ad7f568b0262762c417b538ca74502acb76cf8551ff"), looks := false }, kinds := [], alts := [], laidByText := true, laidKinds := [.data], laidTests := true, laidLooks := .later }
def CalendarListSpecUptoCardSaid : Prop := Claim7.holds Tryd.pinned (.plain (OpenSpec.upto calendarListSpecSpec)) calendarListSpecUptoCard

/-- THE SECOND FORM's CARD OF 'assizelaw01.CalendarMeets'. -/
def calendarMeetsUptoCard : Claim7 := { stood := { row := calendarMeetsUptoRow, standIns := [], harness := (true, "ecf52cd2f0e00eeb5a9e4ad7f568b0262762c417b538ca74502acb76cf8551ff"), looks := false }, kinds := [], alts := [], laidByText := true, laidKinds := [.data], laidTests := true, laidLooks := .later }
def CalendarMeetsUptoCardSaid : Prop := Claim7.holds Tryd.pinned (.plain (OpenSpec.upto calendarMeetsSpec)) calendarMeetsUptoCard
end Rows
end Go.Proofs.YtlijdbgknbeefaaDoor
