/-
  NARROWER THAN 'FOR EVERY INPUT', by the rows' own cells (each row's printed sentence says how): GrammarRights: laid · GrammarAsks: laid · GrammarValues: loops, laid · GrammarFits: loops, laid · GrammarMosts: laid · GrammarCuts: loops, laid · GrammarForms: loops, laid.
  DERIVED. THE GIVEN ROWS OF THIS SEAT. 7 by the template 'for every input the law returns true; each argument reads behind the call as it read before'; 0 by the template 'total and deterministic' (their statements: YtgneobkmmmpbiaaGreatDoorTotals.lean).
  GIVEN WITH THE SEED: the statements are not yours to turn. If you find one false, say at which input.
  Laid BY PROGRAM, IN A SANDBOX (cutbox-rows.mjs): the forced cells as the released guide's own fill.sh prints them over the translation 8d99b8c2b57214ce… (all of the seat's roots in one cut). By AI agents, Wed Nov 11 2026. No macro, syntax, notation, axiom, sorry.
-/
import Derived.Test.YtgneobkmmmpbiaaGreatDoorChecked
import GoSem.PinnedTables
import GoSem.Claim
import GoSem.ClaimJoined
import GoSem.ClaimMapViews
import Derived.JoinedTies
import Derived.KernelRfl
namespace Go.Proofs.YtgneobkmmmpbiaaGreatDoor
/- THE CELL 'sum', in the pinned program and in every row, IS THE sha256 OF THE DUMP (.gsa) THAT YtgneobkmmmpbiaaGreatDoorProg.lean LOADS. Nothing in Lean hashes anything: it is a label: what it is worth is what the hold of that sum in a sandbox is worth. -/
noncomputable def Tryz.pinned : Pinned := { name := "ytgneobkmmmpbiaagreatdoor", sum := "8d99b8c2b57214ce8f1baf1577439b47ff21eb94e9c27937bfb34885122f3f80", checked := Tryz.checked }
namespace Rows
def none {H : Type} : Left H := { results := [], args := [] }

/- WHAT THE LISTED PACKAGE-LEVEL VARIABLES READ AS WHEN THE CALL BEGINS. Each datum BY PROGRAM (the guide's laid-datum.mjs) off the statement by which the dump's own 'gosem.cut.vars' lays the variable. In a bare row this is a premise. The card (YtgneobkmmmpbiaaGreatDoorCards.lean) ties it to the program's text. -/
def laid_unicode_utf8_acceptRanges {H : Type} : DataW H := .agg [.agg [.lit (.int .u8 128), .lit (.int .u8 191)], .agg [.lit (.int .u8 160), .lit (.int .u8 191)], .agg [.lit (.int .u8 128), .lit (.int .u8 159)], .agg [.lit (.int .u8 144), .lit (.int .u8 191)], .agg [.lit (.int .u8 128), .lit (.int .u8 143)], .agg [.lit (.int .u8 0), .lit (.int .u8 0)], .agg [.lit (.int .u8 0), .lit (.int .u8 0)], .agg [.lit (.int .u8 0), .lit (.int .u8 0)], .agg [.lit (.int .u8 0), .lit (.int .u8 0)], .agg [.lit (.int .u8 0), .lit (.int .u8 0)], .agg [.lit (.int .u8 0), .lit (.int .u8 0)], .agg [.lit (.int .u8 0), .lit (.int .u8 0)], .agg [.lit (.int .u8 0), .lit (.int .u8 0)], .agg [.lit (.int .u8 0), .lit (.int .u8 0)], .agg [.lit (.int .u8 0), .lit (.int .u8 0)], .agg [.lit (.int .u8 0), .lit (.int .u8 0)]]
/-- One of Go's own tables, pinned by name: the form's constant. -/
def laid_unicode_utf8_first : DataW Unit := Go.Pinned.utf8First

/-- 'turnstilelaw10.GrammarRights': WHATEVER THE INPUT: true; the input reads as it did. -/
def grammarRightsSpec : ChangeSpec := { name := "grammarRights", fn := fun _ => fun
  | [d1, d2, d3] => { results := [.lit (.bool true)], args := [d1, d2, d3] }
  | _ => none }
def grammarRightsRow : OpenClaim := { program := "ytgneobkmmmpbiaagreatdoor", sum := "8d99b8c2b57214ce8f1baf1577439b47ff21eb94e9c27937bfb34885122f3f80", func := "turnstile/turnstilelaw10.GrammarRights", spec := "grammarRights", inPlace := ["internal/bytealg.IndexByteString", "internal/bytealg.IndexString", "internal/abi.NoEscape"], unfollowed := true, recurses := true, named := ["unicode/utf8.first", "unicode/utf8.acceptRanges", "internal/bytealg.MaxLen"], apart := false, laid := [("unicode/utf8.acceptRanges", laid_unicode_utf8_acceptRanges), ("unicode/utf8.first", laid_unicode_utf8_first)] }
def GrammarRightsSaid : Prop := grammarRightsRow.holds Tryz.pinned (OpenSpec.ofChange grammarRightsSpec)

/-- ITS FALSE NEIGHBOUR: 'it returns false'. Refute it at one input. -/
def grammarRightsWrong : ChangeSpec := { name := "grammarRights", fn := fun _ => fun
  | [d1, d2, d3] => { results := [.lit (.bool false)], args := [d1, d2, d3] }
  | _ => none }
def GrammarRightsWrongFalsely : Prop := grammarRightsRow.holds Tryz.pinned (OpenSpec.ofChange grammarRightsWrong)

/-- 'turnstilelaw10.GrammarAsks': WHATEVER THE INPUT: true; the input reads as it did. -/
def grammarAsksSpec : ChangeSpec := { name := "grammarAsks", fn := fun _ => fun
  | [d1, d2, d3, d4, d5] => { results := [.lit (.bool true)], args := [d1, d2, d3, d4, d5] }
  | _ => none }
def grammarAsksRow : OpenClaim := { program := "ytgneobkmmmpbiaagreatdoor", sum := "8d99b8c2b57214ce8f1baf1577439b47ff21eb94e9c27937bfb34885122f3f80", func := "turnstile/turnstilelaw10.GrammarAsks", spec := "grammarAsks", inPlace := ["internal/bytealg.IndexByteString", "internal/bytealg.IndexString", "internal/abi.NoEscape"], unfollowed := true, recurses := true, named := ["unicode/utf8.first", "unicode/utf8.acceptRanges", "internal/bytealg.MaxLen"], apart := false, laid := [("unicode/utf8.acceptRanges", laid_unicode_utf8_acceptRanges), ("unicode/utf8.first", laid_unicode_utf8_first)] }
def GrammarAsksSaid : Prop := grammarAsksRow.holds Tryz.pinned (OpenSpec.ofChange grammarAsksSpec)

/-- ITS FALSE NEIGHBOUR: 'it returns false'. Refute it at one input. -/
def grammarAsksWrong : ChangeSpec := { name := "grammarAsks", fn := fun _ => fun
  | [d1, d2, d3, d4, d5] => { results := [.lit (.bool false)], args := [d1, d2, d3, d4, d5] }
  | _ => none }
def GrammarAsksWrongFalsely : Prop := grammarAsksRow.holds Tryz.pinned (OpenSpec.ofChange grammarAsksWrong)

/-- 'turnstilelaw10.GrammarValues': WHATEVER THE INPUT: true; the input reads as it did. -/
def grammarValuesSpec : ChangeSpec := { name := "grammarValues", fn := fun _ => fun
  | [d1, d2, d3] => { results := [.lit (.bool true)], args := [d1, d2, d3] }
  | _ => none }
def grammarValuesRow : OpenClaim := { program := "ytgneobkmmmpbiaagreatdoor", sum := "8d99b8c2b57214ce8f1baf1577439b47ff21eb94e9c27937bfb34885122f3f80", func := "turnstile/turnstilelaw10.GrammarValues", spec := "grammarValues", inPlace := ["internal/bytealg.IndexByteString", "internal/bytealg.IndexString", "internal/abi.NoEscape"], unfollowed := true, recurses := true, named := ["unicode/utf8.first", "unicode/utf8.acceptRanges", "internal/bytealg.MaxLen"], loops := true, apart := false, laid := [("unicode/utf8.acceptRanges", laid_unicode_utf8_acceptRanges), ("unicode/utf8.first", laid_unicode_utf8_first)] }
def GrammarValuesSaid : Prop := grammarValuesRow.holds Tryz.pinned (OpenSpec.ofChange grammarValuesSpec)

/-- ITS FALSE NEIGHBOUR: 'it returns false'. Refute it at one input. -/
def grammarValuesWrong : ChangeSpec := { name := "grammarValues", fn := fun _ => fun
  | [d1, d2, d3] => { results := [.lit (.bool false)], args := [d1, d2, d3] }
  | _ => none }
def GrammarValuesWrongFalsely : Prop := grammarValuesRow.holds Tryz.pinned (OpenSpec.ofChange grammarValuesWrong)

/-- 'turnstilelaw10.GrammarFits': WHATEVER THE INPUT: true; the input reads as it did. -/
def grammarFitsSpec : ChangeSpec := { name := "grammarFits", fn := fun _ => fun
  | [d1, d2, d3, d4, d5] => { results := [.lit (.bool true)], args := [d1, d2, d3, d4, d5] }
  | _ => none }
def grammarFitsRow : OpenClaim := { program := "ytgneobkmmmpbiaagreatdoor", sum := "8d99b8c2b57214ce8f1baf1577439b47ff21eb94e9c27937bfb34885122f3f80", func := "turnstile/turnstilelaw10.GrammarFits", spec := "grammarFits", inPlace := ["internal/bytealg.IndexByteString", "internal/bytealg.IndexString", "internal/abi.NoEscape"], unfollowed := true, recurses := true, named := ["unicode/utf8.first", "unicode/utf8.acceptRanges", "internal/bytealg.MaxLen"], loops := true, apart := false, laid := [("unicode/utf8.acceptRanges", laid_unicode_utf8_acceptRanges), ("unicode/utf8.first", laid_unicode_utf8_first)] }
def GrammarFitsSaid : Prop := grammarFitsRow.holds Tryz.pinned (OpenSpec.ofChange grammarFitsSpec)

/-- ITS FALSE NEIGHBOUR: 'it returns false'. Refute it at one input. -/
def grammarFitsWrong : ChangeSpec := { name := "grammarFits", fn := fun _ => fun
  | [d1, d2, d3, d4, d5] => { results := [.lit (.bool false)], args := [d1, d2, d3, d4, d5] }
  | _ => none }
def GrammarFitsWrongFalsely : Prop := grammarFitsRow.holds Tryz.pinned (OpenSpec.ofChange grammarFitsWrong)

/-- 'turnstilelaw10.GrammarMosts': WHATEVER THE INPUT: true; the input reads as it did. -/
def grammarMostsSpec : ChangeSpec := { name := "grammarMosts", fn := fun _ => fun
  | [d1, d2, d3] => { results := [.lit (.bool true)], args := [d1, d2, d3] }
  | _ => none }
def grammarMostsRow : OpenClaim := { program := "ytgneobkmmmpbiaagreatdoor", sum := "8d99b8c2b57214ce8f1baf1577439b47ff21eb94e9c27937bfb34885122f3f80", func := "turnstile/turnstilelaw10.GrammarMosts", spec := "grammarMosts", inPlace := ["internal/bytealg.IndexByteString", "internal/bytealg.IndexString", "internal/abi.NoEscape"], unfollowed := true, recurses := true, named := ["unicode/utf8.first", "unicode/utf8.acceptRanges", "internal/bytealg.MaxLen"], apart := false, laid := [("unicode/utf8.acceptRanges", laid_unicode_utf8_acceptRanges), ("unicode/utf8.first", laid_unicode_utf8_first)] }
def GrammarMostsSaid : Prop := grammarMostsRow.holds Tryz.pinned (OpenSpec.ofChange grammarMostsSpec)

/-- ITS FALSE NEIGHBOUR: 'it returns false'. Refute it at one input. -/
def grammarMostsWrong : ChangeSpec := { name := "grammarMosts", fn := fun _ => fun
  | [d1, d2, d3] => { results := [.lit (.bool false)], args := [d1, d2, d3] }
  | _ => none }
def GrammarMostsWrongFalsely : Prop := grammarMostsRow.holds Tryz.pinned (OpenSpec.ofChange grammarMostsWrong)

/-- 'turnstilelaw10.GrammarCuts': WHATEVER THE INPUT: true; the input reads as it did. -/
def grammarCutsSpec : ChangeSpec := { name := "grammarCuts", fn := fun _ => fun
  | [d1, d2, d3, d4, d5, d6] => { results := [.lit (.bool true)], args := [d1, d2, d3, d4, d5, d6] }
  | _ => none }
def grammarCutsRow : OpenClaim := { program := "ytgneobkmmmpbiaagreatdoor", sum := "8d99b8c2b57214ce8f1baf1577439b47ff21eb94e9c27937bfb34885122f3f80", func := "turnstile/turnstilelaw10.GrammarCuts", spec := "grammarCuts", inPlace := ["internal/bytealg.IndexByteString", "internal/bytealg.IndexString", "internal/abi.NoEscape"], unfollowed := true, recurses := true, named := ["unicode/utf8.first", "unicode/utf8.acceptRanges", "internal/bytealg.MaxLen"], loops := true, apart := false, laid := [("unicode/utf8.acceptRanges", laid_unicode_utf8_acceptRanges), ("unicode/utf8.first", laid_unicode_utf8_first)] }
def GrammarCutsSaid : Prop := grammarCutsRow.holds Tryz.pinned (OpenSpec.ofChange grammarCutsSpec)

/-- ITS FALSE NEIGHBOUR: 'it returns false'. Refute it at one input. -/
def grammarCutsWrong : ChangeSpec := { name := "grammarCuts", fn := fun _ => fun
  | [d1, d2, d3, d4, d5, d6] => { results := [.lit (.bool false)], args := [d1, d2, d3, d4, d5, d6] }
  | _ => none }
def GrammarCutsWrongFalsely : Prop := grammarCutsRow.holds Tryz.pinned (OpenSpec.ofChange grammarCutsWrong)

/-- 'turnstilelaw10.GrammarForms': WHATEVER THE INPUT: true; the input reads as it did. -/
def grammarFormsSpec : ChangeSpec := { name := "grammarForms", fn := fun _ => fun
  | [d1, d2, d3] => { results := [.lit (.bool true)], args := [d1, d2, d3] }
  | _ => none }
def grammarFormsRow : OpenClaim := { program := "ytgneobkmmmpbiaagreatdoor", sum := "8d99b8c2b57214ce8f1baf1577439b47ff21eb94e9c27937bfb34885122f3f80", func := "turnstile/turnstilelaw10.GrammarForms", spec := "grammarForms", inPlace := ["internal/bytealg.IndexByteString", "internal/bytealg.IndexString", "internal/abi.NoEscape"], unfollowed := true, recurses := true, named := ["unicode/utf8.first", "unicode/utf8.acceptRanges", "internal/bytealg.MaxLen"], loops := true, apart := false, laid := [("unicode/utf8.acceptRanges", laid_unicode_utf8_acceptRanges), ("unicode/utf8.first", laid_unicode_utf8_first)] }
def GrammarFormsSaid : Prop := grammarFormsRow.holds Tryz.pinned (OpenSpec.ofChange grammarFormsSpec)

/-- ITS FALSE NEIGHBOUR: 'it returns false'. Refute it at one input. -/
def grammarFormsWrong : ChangeSpec := { name := "grammarForms", fn := fun _ => fun
  | [d1, d2, d3] => { results := [.lit (.bool false)], args := [d1, d2, d3] }
  | _ => none }
def GrammarFormsWrongFalsely : Prop := grammarFormsRow.holds Tryz.pinned (OpenSpec.ofChange grammarFormsWrong)

/- THE SECOND FORM. 'bulk': how many values and letters a reading holds, each counted each time it is reached (what is shared counts as often as it is met; a slice's spare places count too). A statement '..UptoSaid' is the law's where the arguments, and the package variables that the reading takes, are together of bulk at most 1048576: NARROWER than '..Said'. Prove '..Said' where nothing that the law and all that it calls make is longer than what came in: it says more and counts as full. Else prove '..UptoSaid'. A law counts once. -/
mutual
def uptoBulk {H : Type} : DataW H → Nat
  | .lit (.string bytes) => bytes.length + 1
  | .lit _ => 1
  | .nil => 1
  | .ptr d => uptoBulk d + 1
  | .slice elems spare => uptoBulkAll elems + uptoBulkAll spare + 1
  | .agg parts => uptoBulkAll parts + 1
  | .iface _ d => uptoBulk d + 1
  | .map entries => uptoBulkEntries entries + 1
  | .held _ => 1
def uptoBulkAll {H : Type} : List (DataW H) → Nat
  | [] => 0
  | d :: r => uptoBulk d + uptoBulkAll r
def uptoBulkEntries {H : Type} : List (Lit × DataW H) → Nat
  | [] => 0
  | x :: r => uptoBulkEntry x + uptoBulkEntries r
def uptoBulkEntry {H : Type} : Lit × DataW H → Nat
  | (.string bytes, d) => bytes.length + uptoBulk d + 1
  | (_, d) => uptoBulk d + 1
 end
def uptoSmall : (H : Type) → List (DataW H) → Bool := fun _ ds => decide (uptoBulkAll ds ≤ 1048576)
def OpenSpec.upto (s : _root_.Go.ChangeSpec) : _root_.Go.OpenSpec := { _root_.Go.OpenSpec.ofChange s with cond := some uptoSmall }

/-- 'turnstilelaw10.GrammarRights', WHERE WHAT IT READS IS OF BULK AT MOST 1048576: true; the input reads as it did. -/
def grammarRightsUptoRow : OpenClaim := { program := "ytgneobkmmmpbiaagreatdoor", sum := "8d99b8c2b57214ce8f1baf1577439b47ff21eb94e9c27937bfb34885122f3f80", func := "turnstile/turnstilelaw10.GrammarRights", spec := "grammarRights", inPlace := ["internal/bytealg.IndexByteString", "internal/bytealg.IndexString", "internal/abi.NoEscape"], unfollowed := true, recurses := true, named := ["unicode/utf8.first", "unicode/utf8.acceptRanges", "internal/bytealg.MaxLen"], apart := false, laid := [("unicode/utf8.acceptRanges", laid_unicode_utf8_acceptRanges), ("unicode/utf8.first", laid_unicode_utf8_first)], narrowed := true }
def GrammarRightsUptoSaid : Prop := grammarRightsUptoRow.holds Tryz.pinned (OpenSpec.upto grammarRightsSpec)

/-- 'turnstilelaw10.GrammarAsks', WHERE WHAT IT READS IS OF BULK AT MOST 1048576: true; the input reads as it did. -/
def grammarAsksUptoRow : OpenClaim := { program := "ytgneobkmmmpbiaagreatdoor", sum := "8d99b8c2b57214ce8f1baf1577439b47ff21eb94e9c27937bfb34885122f3f80", func := "turnstile/turnstilelaw10.GrammarAsks", spec := "grammarAsks", inPlace := ["internal/bytealg.IndexByteString", "internal/bytealg.IndexString", "internal/abi.NoEscape"], unfollowed := true, recurses := true, named := ["unicode/utf8.first", "unicode/utf8.acceptRanges", "internal/bytealg.MaxLen"], apart := false, laid := [("unicode/utf8.acceptRanges", laid_unicode_utf8_acceptRanges), ("unicode/utf8.first", laid_unicode_utf8_first)], narrowed := true }
def GrammarAsksUptoSaid : Prop := grammarAsksUptoRow.holds Tryz.pinned (OpenSpec.upto grammarAsksSpec)

/-- 'turnstilelaw10.GrammarValues', WHERE WHAT IT READS IS OF BULK AT MOST 1048576: true; the input reads as it did. -/
def grammarValuesUptoRow : OpenClaim := { program := "ytgneobkmmmpbiaagreatdoor", sum := "8d99b8c2b57214ce8f1baf1577439b47ff21eb94e9c27937bfb34885122f3f80", func := "turnstile/turnstilelaw10.GrammarValues", spec := "grammarValues", inPlace := ["internal/bytealg.IndexByteString", "internal/bytealg.IndexString", "internal/abi.NoEscape"], unfollowed := true, recurses := true, named := ["unicode/utf8.first", "unicode/utf8.acceptRanges", "internal/bytealg.MaxLen"], loops := true, apart := false, laid := [("unicode/utf8.acceptRanges", laid_unicode_utf8_acceptRanges), ("unicode/utf8.first", laid_unicode_utf8_first)], narrowed := true }
def GrammarValuesUptoSaid : Prop := grammarValuesUptoRow.holds Tryz.pinned (OpenSpec.upto grammarValuesSpec)

/-- 'turnstilelaw10.GrammarFits', WHERE WHAT IT READS IS OF BULK AT MOST 1048576: true; the input reads as it did. -/
def grammarFitsUptoRow : OpenClaim := { program := "ytgneobkmmmpbiaagreatdoor", sum := "8d99b8c2b57214ce8f1baf1577439b47ff21eb94e9c27937bfb34885122f3f80", func := "turnstile/turnstilelaw10.GrammarFits", spec := "grammarFits", inPlace := ["internal/bytealg.IndexByteString", "internal/bytealg.IndexString", "internal/abi.NoEscape"], unfollowed := true, recurses := true, named := ["unicode/utf8.first", "unicode/utf8.acceptRanges", "internal/bytealg.MaxLen"], loops := true, apart := false, laid := [("unicode/utf8.acceptRanges", laid_unicode_utf8_acceptRanges), ("unicode/utf8.first", laid_unicode_utf8_first)], narrowed := true }
def GrammarFitsUptoSaid : Prop := grammarFitsUptoRow.holds Tryz.pinned (OpenSpec.upto grammarFitsSpec)

/-- 'turnstilelaw10.GrammarMosts', WHERE WHAT IT READS IS OF BULK AT MOST 1048576: true; the input reads as it did. -/
def grammarMostsUptoRow : OpenClaim := { program := "ytgneobkmmmpbiaagreatdoor", sum := "8d99b8c2b57214ce8f1baf1577439b47ff21eb94e9c27937bfb34885122f3f80", func := "turnstile/turnstilelaw10.GrammarMosts", spec := "grammarMosts", inPlace := ["internal/bytealg.IndexByteString", "internal/bytealg.IndexString", "internal/abi.NoEscape"], unfollowed := true, recurses := true, named := ["unicode/utf8.first", "unicode/utf8.acceptRanges", "internal/bytealg.MaxLen"], apart := false, laid := [("unicode/utf8.acceptRanges", laid_unicode_utf8_acceptRanges), ("unicode/utf8.first", laid_unicode_utf8_first)], narrowed := true }
def GrammarMostsUptoSaid : Prop := grammarMostsUptoRow.holds Tryz.pinned (OpenSpec.upto grammarMostsSpec)

/-- 'turnstilelaw10.GrammarCuts', WHERE WHAT IT READS IS OF BULK AT MOST 1048576: true; the input reads as it did. -/
def grammarCutsUptoRow : OpenClaim := { program := "ytgneobkmmmpbiaagreatdoor", sum := "8d99b8c2b57214ce8f1baf1577439b47ff21eb94e9c27937bfb34885122f3f80", func := "turnstile/turnstilelaw10.GrammarCuts", spec := "grammarCuts", inPlace := ["internal/bytealg.IndexByteString", "internal/bytealg.IndexString", "internal/abi.NoEscape"], unfollowed := true, recurses := true, named := ["unicode/utf8.first", "unicode/utf8.acceptRanges", "internal/bytealg.MaxLen"], loops := true, apart := false, laid := [("unicode/utf8.acceptRanges", laid_unicode_utf8_acceptRanges), ("unicode/utf8.first", laid_unicode_utf8_first)], narrowed := true }
def GrammarCutsUptoSaid : Prop := grammarCutsUptoRow.holds Tryz.pinned (OpenSpec.upto grammarCutsSpec)

/-- 'turnstilelaw10.GrammarForms', WHERE WHAT IT READS IS OF BULK AT MOST 1048576: true; the input reads as it did. -/
def grammarFormsUptoRow : OpenClaim := { program := "ytgneobkmmmpbiaagreatdoor", sum := "8d99b8c2b57214ce8f1baf1577439b47ff21eb94e9c27937bfb34885122f3f80", func := "turnstile/turnstilelaw10.GrammarForms", spec := "grammarForms", inPlace := ["internal/bytealg.IndexByteString", "internal/bytealg.IndexString", "internal/abi.NoEscape"], unfollowed := true, recurses := true, named := ["unicode/utf8.first", "unicode/utf8.acceptRanges", "internal/bytealg.MaxLen"], loops := true, apart := false, laid := [("unicode/utf8.acceptRanges", laid_unicode_utf8_acceptRanges), ("unicode/utf8.first", laid_unicode_utf8_first)], narrowed := true }
def GrammarFormsUptoSaid : Prop := grammarFormsUptoRow.holds Tryz.pinned (OpenSpec.upto grammarFormsSpec)

end Rows
end Go.Proofs.YtgneobkmmmpbiaaGreatDoor
