/-
  DERIVED. GIVEN WITH THE SEED: THE CARDS: each row of YtgneobkmmmpbiaaGreatDoorRows.lean that lists a variable, with what it lists TIED to the program's text (the seventh form; the later family's looks); each row that meets fmt, with fmt's text TOLD by the authors' own Lean function (tested against real Go, not proved from fmt's source: count such statements apart). THE CARD IS WHAT COUNTS. Prove the row's statement (the work); the ties are given (YtgneobkmmmpbiaaGreatDoorTie.lean); close each card by the builder's one call (the guide's Derived/Test/ToyasCard.lean, 'card_holds'). Laid BY PROGRAM, IN A SANDBOX (cutbox-door.mjs). By AI agents, Wed Nov 11 2026. No macro, syntax, notation, axiom, sorry.
-/
import Derived.Test.YtgneobkmmmpbiaaGreatDoorRows
import GoSem.ClaimSeven
namespace Go.Proofs.YtgneobkmmmpbiaaGreatDoor
namespace Rows

/-- THE TIED CARD OF 'turnstilelaw10.GrammarRights'. -/
def grammarRightsCard : Claim7 := { stood := { row := grammarRightsRow, standIns := [], harness := (true, "c0881d45c875598dc0d1cb7be4632a524d9ef0b5712410f9718cfee61086b9e6"), looks := true }, kinds := [], alts := [], laidByText := true, laidKinds := [.data, .pinned], laidTests := true, laidLooks := .later }
def GrammarRightsCardSaid : Prop := Claim7.holds Tryz.pinned (.plain (OpenSpec.ofChange grammarRightsSpec)) grammarRightsCard

/-- THE TIED CARD OF 'turnstilelaw10.GrammarAsks'. -/
def grammarAsksCard : Claim7 := { stood := { row := grammarAsksRow, standIns := [], harness := (true, "c0881d45c875598dc0d1cb7be4632a524d9ef0b5712410f9718cfee61086b9e6"), looks := true }, kinds := [], alts := [], laidByText := true, laidKinds := [.data, .pinned], laidTests := true, laidLooks := .later }
def GrammarAsksCardSaid : Prop := Claim7.holds Tryz.pinned (.plain (OpenSpec.ofChange grammarAsksSpec)) grammarAsksCard

/-- THE TIED CARD OF 'turnstilelaw10.GrammarValues'. -/
def grammarValuesCard : Claim7 := { stood := { row := grammarValuesRow, standIns := [], harness := (true, "c0881d45c875598dc0d1cb7be4632a524d9ef0b5712410f9718cfee61086b9e6"), looks := true }, kinds := [], alts := [], laidByText := true, laidKinds := [.data, .pinned], laidTests := true, laidLooks := .later }
def GrammarValuesCardSaid : Prop := Claim7.holds Tryz.pinned (.plain (OpenSpec.ofChange grammarValuesSpec)) grammarValuesCard

/-- THE TIED CARD OF 'turnstilelaw10.GrammarFits'. -/
def grammarFitsCard : Claim7 := { stood := { row := grammarFitsRow, standIns := [], harness := (true, "c0881d45c875598dc0d1cb7be4632a524d9ef0b5712410f9718cfee61086b9e6"), looks := true }, kinds := [], alts := [], laidByText := true, laidKinds := [.data, .pinned], laidTests := true, laidLooks := .later }
def GrammarFitsCardSaid : Prop := Claim7.holds Tryz.pinned (.plain (OpenSpec.ofChange grammarFitsSpec)) grammarFitsCard

/-- THE TIED CARD OF 'turnstilelaw10.GrammarMosts'. -/
def grammarMostsCard : Claim7 := { stood := { row := grammarMostsRow, standIns := [], harness := (true, "c0881d45c875598dc0d1cb7be4632a524d9ef0b5712410f9718cfee61086b9e6"), looks := true }, kinds := [], alts := [], laidByText := true, laidKinds := [.data, .pinned], laidTests := true, laidLooks := .later }
def GrammarMostsCardSaid : Prop := Claim7.holds Tryz.pinned (.plain (OpenSpec.ofChange grammarMostsSpec)) grammarMostsCard

/-- THE TIED CARD OF 'turnstilelaw10.GrammarCuts'. -/
def grammarCutsCard : Claim7 := { stood := { row := grammarCutsRow, standIns := [], harness := (true, "c0881d45c875598dc0d1cb7be4632a524d9ef0b5712410f9718cfee61086b9e6"), looks := true }, kinds := [], alts := [], laidByText := true, laidKinds := [.data, .pinned], laidTests := true, laidLooks := .later }
def GrammarCutsCardSaid : Prop := Claim7.holds Tryz.pinned (.plain (OpenSpec.ofChange grammarCutsSpec)) grammarCutsCard

/-- THE TIED CARD OF 'turnstilelaw10.GrammarForms'. -/
def grammarFormsCard : Claim7 := { stood := { row := grammarFormsRow, standIns := [], harness := (true, "c0881d45c875598dc0d1cb7be4632a524d9ef0b5712410f9718cfee61086b9e6"), looks := true }, kinds := [], alts := [], laidByText := true, laidKinds := [.data, .pinned], laidTests := true, laidLooks := .later }
def GrammarFormsCardSaid : Prop := Claim7.holds Tryz.pinned (.plain (OpenSpec.ofChange grammarFormsSpec)) grammarFormsCard

/-- THE SECOND FORM's CARD OF 'turnstilelaw10.GrammarRights'. -/
def grammarRightsUptoCard : Claim7 := { stood := { row := grammarRightsUptoRow, standIns := [], harness := (true, "c0881d45c875598dc0d1cb7be4632a524d9ef0b5712410f9718cfee61086b9e6"), looks := true }, kinds := [], alts := [], laidByText := true, laidKinds := [.data, .pinned], laidTests := true, laidLooks := .later }
def GrammarRightsUptoCardSaid : Prop := Claim7.holds Tryz.pinned (.plain (OpenSpec.upto grammarRightsSpec)) grammarRightsUptoCard

/-- THE SECOND FORM's CARD OF 'turnstilelaw10.GrammarAsks'. -/
def grammarAsksUptoCard : Claim7 := { stood := { row := grammarAsksUptoRow, standIns := [], harness := (true, "c0881d45c875598dc0d1cb7be4632a524d9ef0b5712410f9718cfee61086b9e6"), looks := true }, kinds := [], alts := [], laidByText := true, laidKinds := [.data, .pinned], laidTests := true, laidLooks := .later }
def GrammarAsksUptoCardSaid : Prop := Claim7.holds Tryz.pinned (.plain (OpenSpec.upto grammarAsksSpec)) grammarAsksUptoCard

/-- THE SECOND FORM's CARD OF 'turnstilelaw10.GrammarValues'. -/
def grammarValuesUptoCard : Claim7 := { stood := { row := grammarValuesUptoRow, standIns := [], harness := (true, "c0881d45c875598dc0d1cb7be4632a524d9ef0b5712410f9718cfee61086b9e6"), looks := true }, kinds := [], alts := [], laidByText := true, laidKinds := [.data, .pinned], laidTests := true, laidLooks := .later }
def GrammarValuesUptoCardSaid : Prop := Claim7.holds Tryz.pinned (.plain (OpenSpec.upto grammarValuesSpec)) grammarValuesUptoCard

/-- THE SECOND FORM's CARD OF 'turnstilelaw10.GrammarFits'. -/
def grammarFitsUptoCard : Claim7 := { stood := { row := grammarFitsUptoRow, standIns := [], harness := (true, "c0881d45c875598dc0d1cb7be4632a524d9ef0b5712410f9718cfee61086b9e6"), looks := true }, kinds := [], alts := [], laidByText := true, laidKinds := [.data, .pinned], laidTests := true, laidLooks := .later }
def GrammarFitsUptoCardSaid : Prop := Claim7.holds Tryz.pinned (.plain (OpenSpec.upto grammarFitsSpec)) grammarFitsUptoCard

/-- THE SECOND FORM's CARD OF 'turnstilelaw10.GrammarMosts'. -/
def grammarMostsUptoCard : Claim7 := { stood := { row := grammarMostsUptoRow, standIns := [], harness := (true, "c0881d45c875598dc0d1cb7be4632a524d9ef0b5712410f9718cfee61086b9e6"), looks := true }, kinds := [], alts := [], laidByText := true, laidKinds := [.data, .pinned], laidTests := true, laidLooks := .later }
def GrammarMostsUptoCardSaid : Prop := Claim7.holds Tryz.pinned (.plain (OpenSpec.upto grammarMostsSpec)) grammarMostsUptoCard

/-- THE SECOND FORM's CARD OF 'turnstilelaw10.GrammarCuts'. -/
def grammarCutsUptoCard : Claim7 := { stood := { row := grammarCutsUptoRow, standIns := [], harness := (true, "c0881d45c875598dc0d1cb7be4632a524d9ef0b5712410f9718cfee61086b9e6"), looks := true }, kinds := [], alts := [], laidByText := true, laidKinds := [.data, .pinned], laidTests := true, laidLooks := .later }
def GrammarCutsUptoCardSaid : Prop := Claim7.holds Tryz.pinned (.plain (OpenSpec.upto grammarCutsSpec)) grammarCutsUptoCard

/-- THE SECOND FORM's CARD OF 'turnstilelaw10.GrammarForms'. -/
def grammarFormsUptoCard : Claim7 := { stood := { row := grammarFormsUptoRow, standIns := [], harness := (true, "c0881d45c875598dc0d1cb7be4632a524d9ef0b5712410f9718cfee61086b9e6"), looks := true }, kinds := [], alts := [], laidByText := true, laidKinds := [.data, .pinned], laidTests := true, laidLooks := .later }
def GrammarFormsUptoCardSaid : Prop := Claim7.holds Tryz.pinned (.plain (OpenSpec.upto grammarFormsSpec)) grammarFormsUptoCard
end Rows
end Go.Proofs.YtgneobkmmmpbiaaGreatDoor
