/-
  DERIVED. GIVEN WITH THE SEED: THE CARDS: each row of YtnfanhnflcjphaaDoorRows.lean that lists a variable, with what it lists TIED to the program's text (the seventh form; the later family's looks); each row that meets fmt, with fmt's text TOLD by the authors' own Lean function (tested against real Go, not proved from fmt's source: count such statements apart). THE CARD IS WHAT COUNTS. Prove the row's statement (the work); the ties are given (YtnfanhnflcjphaaDoorTie.lean); close each card by the builder's one call (the guide's Derived/Test/ToyasCard.lean, 'card_holds'). Laid BY PROGRAM, IN A SANDBOX (cutbox-door.mjs). By AI agents, Wed Nov 11 2026. No macro, syntax, notation, axiom, sorry.
-/
import Derived.Test.YtnfanhnflcjphaaDoorRows
import GoSem.ClaimSeven
namespace Go.Proofs.YtnfanhnflcjphaaDoor
namespace Rows

/-- THE TIED CARD OF 'chargeparklaw12.ChargerMatchesReference'. -/
def chargerMatchesReferenceCard : Claim7 := { stood := { row := chargerMatchesReferenceRow, standIns := [], harness := (true, "0b2b1db1f7d85af2abc5dc1c8ae4299e8fe60535200a8500d95be8af05049082"), looks := false }, kinds := [], alts := [], laidByText := true, laidKinds := [.data], laidTests := true, laidLooks := .later }
def ChargerMatchesReferenceCardSaid : Prop := Claim7.holds Tryd.pinned (.plain (OpenSpec.ofChange chargerMatchesReferenceSpec)) chargerMatchesReferenceCard

/-- THE TIED CARD OF 'chargeparklaw12.ChargerOrder'. -/
def chargerOrderCard : Claim7 := { stood := { row := chargerOrderRow, standIns := [], harness := (true, "0b2b1db1f7d85af2abc5dc1c8ae4299e8fe60535200a8500d95be8af05049082"), looks := false }, kinds := [], alts := [], laidByText := true, laidKinds := [.data], laidTests := true, laidLooks := .later }
def ChargerOrderCardSaid : Prop := Claim7.holds Tryd.pinned (.plain (OpenSpec.ofChange chargerOrderSpec)) chargerOrderCard

/-- THE TIED CARD OF 'chargeparklaw12.ChargerLeases'. -/
def chargerLeasesCard : Claim7 := { stood := { row := chargerLeasesRow, standIns := [], harness := (true, "0b2b1db1f7d85af2abc5dc1c8ae4299e8fe60535200a8500d95be8af05049082"), looks := false }, kinds := [], alts := [], laidByText := true, laidKinds := [.data], laidTests := true, laidLooks := .later }
def ChargerLeasesCardSaid : Prop := Claim7.holds Tryd.pinned (.plain (OpenSpec.ofChange chargerLeasesSpec)) chargerLeasesCard

/-- THE TIED CARD OF 'chargeparklaw12.ChargerValid'. -/
def chargerValidCard : Claim7 := { stood := { row := chargerValidRow, standIns := [], harness := (true, "0b2b1db1f7d85af2abc5dc1c8ae4299e8fe60535200a8500d95be8af05049082"), looks := false }, kinds := [], alts := [], laidByText := true, laidKinds := [.data], laidTests := true, laidLooks := .later }
def ChargerValidCardSaid : Prop := Claim7.holds Tryd.pinned (.plain (OpenSpec.ofChange chargerValidSpec)) chargerValidCard

/-- THE TIED CARD OF 'chargeparklaw12.ChargerWelded'. -/
def chargerWeldedCard : Claim7 := { stood := { row := chargerWeldedRow, standIns := [], harness := (true, "0b2b1db1f7d85af2abc5dc1c8ae4299e8fe60535200a8500d95be8af05049082"), looks := false }, kinds := [], alts := [], laidByText := true, laidKinds := [.data], laidTests := true, laidLooks := .later }
def ChargerWeldedCardSaid : Prop := Claim7.holds Tryd.pinned (.plain (OpenSpec.ofChange chargerWeldedSpec)) chargerWeldedCard

/-- THE TIED CARD OF 'chargeparklaw12.ChargerSilence'. -/
def chargerSilenceCard : Claim7 := { stood := { row := chargerSilenceRow, standIns := [], harness := (true, "0b2b1db1f7d85af2abc5dc1c8ae4299e8fe60535200a8500d95be8af05049082"), looks := false }, kinds := [], alts := [], laidByText := true, laidKinds := [.data], laidTests := true, laidLooks := .later }
def ChargerSilenceCardSaid : Prop := Claim7.holds Tryd.pinned (.plain (OpenSpec.ofChange chargerSilenceSpec)) chargerSilenceCard

/-- THE TIED CARD OF 'chargeparklaw12.ChargerExchanged'. -/
def chargerExchangedCard : Claim7 := { stood := { row := chargerExchangedRow, standIns := [], harness := (true, "0b2b1db1f7d85af2abc5dc1c8ae4299e8fe60535200a8500d95be8af05049082"), looks := false }, kinds := [], alts := [], laidByText := true, laidKinds := [.data], laidTests := true, laidLooks := .later }
def ChargerExchangedCardSaid : Prop := Claim7.holds Tryd.pinned (.plain (OpenSpec.ofChange chargerExchangedSpec)) chargerExchangedCard

/-- THE SECOND FORM's CARD OF 'chargeparklaw12.ChargerMatchesReference'. -/
def chargerMatchesReferenceUptoCard : Claim7 := { stood := { row := chargerMatchesReferenceUptoRow, standIns := [], harness := (true, "0b2b1db1f7d85af2abc5dc1c8ae4299e8fe60535200a8500d95be8af05049082"), looks := false }, kinds := [], alts := [], laidByText := true, laidKinds := [.data], laidTests := true, laidLooks := .later }
def ChargerMatchesReferenceUptoCardSaid : Prop := Claim7.holds Tryd.pinned (.plain (OpenSpec.upto chargerMatchesReferenceSpec)) chargerMatchesReferenceUptoCard

/-- THE SECOND FORM's CARD OF 'chargeparklaw12.ChargerOrder'. -/
def chargerOrderUptoCard : Claim7 := { stood := { row := chargerOrderUptoRow, standIns := [], harness := (true, "0b2b1db1f7d85af2abc5dc1c8ae4299e8fe60535200a8500d95be8af05049082"), looks := false }, kinds := [], alts := [], laidByText := true, laidKinds := [.data], laidTests := true, laidLooks := .later }
def ChargerOrderUptoCardSaid : Prop := Claim7.holds Tryd.pinned (.plain (OpenSpec.upto chargerOrderSpec)) chargerOrderUptoCard

/-- THE SECOND FORM's CARD OF 'chargeparklaw12.ChargerLeases'. -/
def chargerLeasesUptoCard : Claim7 := { stood := { row := chargerLeasesUptoRow, standIns := [], harness := (true, "0b2b1db1f7d85af2abc5dc1c8ae4299e8fe60535200a8500d95be8af05049082"), looks := false }, kinds := [], alts := [], laidByText := true, laidKinds := [.data], laidTests := true, laidLooks := .later }
def ChargerLeasesUptoCardSaid : Prop := Claim7.holds Tryd.pinned (.plain (OpenSpec.upto chargerLeasesSpec)) chargerLeasesUptoCard

/-- THE SECOND FORM's CARD OF 'chargeparklaw12.ChargerValid'. -/
def chargerValidUptoCard : Claim7 := { stood := { row := chargerValidUptoRow, standIns := [], harness := (true, "0b2b1db1f7d85af2abc5dc1c8ae4299e8fe60535200a8500d95be8af05049082"), looks := false }, kinds := [], alts := [], laidByText := true, laidKinds := [.data], laidTests := true, laidLooks := .later }
def ChargerValidUptoCardSaid : Prop := Claim7.holds Tryd.pinned (.plain (OpenSpec.upto chargerValidSpec)) chargerValidUptoCard

/-- THE SECOND FORM's CARD OF 'chargeparklaw12.ChargerWelded'. -/
def chargerWeldedUptoCard : Claim7 := { stood := { row := chargerWeldedUptoRow, standIns := [], harness := (true, "0b2b1db1f7d85af2abc5dc1c8ae4299e8fe60535200a8500d95be8af05049082"), looks := false }, kinds := [], alts := [], laidByText := true, laidKinds := [.data], laidTests := true, laidLooks := .later }
def ChargerWeldedUptoCardSaid : Prop := Claim7.holds Tryd.pinned (.plain (OpenSpec.upto chargerWeldedSpec)) chargerWeldedUptoCard

/-- THE SECOND FORM's CARD OF 'chargeparklaw12.ChargerSilence'. -/
def chargerSilenceUptoCard : Claim7 := { stood := { row := chargerSilenceUptoRow, standIns := [], harness := (true, "0b2b1db1f7d85af2abc5dc1c8ae4299e8fe60535200a8500d95be8af05049082"), looks := false }, kinds := [], alts := [], laidByText := true, laidKinds := [.data], laidTests := true, laidLooks := .later }
def ChargerSilenceUptoCardSaid : Prop := Claim7.holds Tryd.pinned (.plain (OpenSpec.upto chargerSilenceSpec)) chargerSilenceUptoCard

/-- THE SECOND FORM's CARD OF 'chargeparklaw12.ChargerExchanged'. -/
def chargerExchangedUptoCard : Claim7 := { stood := { row := chargerExchangedUptoRow, standIns := [], harness := (true, "0b2b1db1f7d85af2abc5dc1c8ae4299e8fe60535200a8500d95be8af05049082"), looks := false }, kinds := [], alts := [], laidByText := true, laidKinds := [.data], laidTests := true, laidLooks := .later }
def ChargerExchangedUptoCardSaid : Prop := Claim7.holds Tryd.pinned (.plain (OpenSpec.upto chargerExchangedSpec)) chargerExchangedUptoCard
end Rows
end Go.Proofs.YtnfanhnflcjphaaDoor
