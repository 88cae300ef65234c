/-
  NARROWER THAN 'FOR EVERY INPUT', by the rows' own cells (each row's printed sentence says how): TextCuts: laid · TextKeys: laid · TextJoins: laid · TextBlanks: laid · TextDigits: laid · TextUnits: laid · TextBack: laid · TextOrders: laid · TextAsciis: laid · TextTells: laid.
  DERIVED. THE GIVEN ROWS OF THIS SEAT. 10 by the template 'for every input the law returns true; each argument reads behind the call as it read before'; 0 by the template 'total and deterministic' (their statements: YtginfodcobpljaaDoorTotals.lean).
  GIVEN WITH THE SEED: the statements are not yours to turn. If you find one false, say at which input.
  Laid BY PROGRAM, IN A SANDBOX (cutbox-rows.mjs): the forced cells as the released guide's own fill.sh prints them over the translation 59dbda38e32c096c… (all of the seat's roots in one cut). By AI agents, Wed Nov 11 2026. No macro, syntax, notation, axiom, sorry.
-/
import Derived.Test.YtginfodcobpljaaDoorChecked
import GoSem.PinnedTables
import GoSem.Claim
import GoSem.ClaimJoined
import GoSem.ClaimMapViews
import Derived.JoinedTies
import Derived.KernelRfl
namespace Go.Proofs.YtginfodcobpljaaDoor
/- THE CELL 'sum', in the pinned program and in every row, IS THE sha256 OF THE DUMP (.gsa) THAT YtginfodcobpljaaDoorProg.lean LOADS. Nothing in Lean hashes anything: it is a label: what it is worth is what the hold of that sum in a sandbox is worth. -/
noncomputable def Tryd.pinned : Pinned := { name := "ytginfodcobpljaadoor", sum := "59dbda38e32c096cf04df7af6e181dd24805fcc7600a277ef967e9347a08f600", checked := Tryd.checked }
namespace Rows
def none {H : Type} : Left H := { results := [], args := [] }

/- WHAT THE LISTED PACKAGE-LEVEL VARIABLES READ AS WHEN THE CALL BEGINS. Each datum BY PROGRAM (the guide's laid-datum.mjs) off the statement by which the dump's own 'gosem.cut.vars' lays the variable. In a bare row this is a premise. The card (YtginfodcobpljaaDoorCards.lean) ties it to the program's text. -/
def laid_unicode_utf8_acceptRanges {H : Type} : DataW H := .agg [.agg [.lit (.int .u8 128), .lit (.int .u8 191)], .agg [.lit (.int .u8 160), .lit (.int .u8 191)], .agg [.lit (.int .u8 128), .lit (.int .u8 159)], .agg [.lit (.int .u8 144), .lit (.int .u8 191)], .agg [.lit (.int .u8 128), .lit (.int .u8 143)], .agg [.lit (.int .u8 0), .lit (.int .u8 0)], .agg [.lit (.int .u8 0), .lit (.int .u8 0)], .agg [.lit (.int .u8 0), .lit (.int .u8 0)], .agg [.lit (.int .u8 0), .lit (.int .u8 0)], .agg [.lit (.int .u8 0), .lit (.int .u8 0)], .agg [.lit (.int .u8 0), .lit (.int .u8 0)], .agg [.lit (.int .u8 0), .lit (.int .u8 0)], .agg [.lit (.int .u8 0), .lit (.int .u8 0)], .agg [.lit (.int .u8 0), .lit (.int .u8 0)], .agg [.lit (.int .u8 0), .lit (.int .u8 0)], .agg [.lit (.int .u8 0), .lit (.int .u8 0)]]
/-- One of Go's own tables, pinned by name: the form's constant. -/
def laid_unicode_utf8_first : DataW Unit := Go.Pinned.utf8First

/-- 'renlaw3.TextCuts': WHATEVER THE INPUT: true; the input reads as it did. -/
def textCutsSpec : ChangeSpec := { name := "textCuts", fn := fun _ => fun
  | [d1, d2] => { results := [.lit (.bool true)], args := [d1, d2] }
  | _ => none }
def textCutsRow : OpenClaim := { program := "ytginfodcobpljaadoor", sum := "59dbda38e32c096cf04df7af6e181dd24805fcc7600a277ef967e9347a08f600", func := "rendezvous/renlaw3.TextCuts", spec := "textCuts", unfollowed := true, recurses := true, named := ["unicode/utf8.first", "unicode/utf8.acceptRanges"], apart := false, laid := [("unicode/utf8.acceptRanges", laid_unicode_utf8_acceptRanges), ("unicode/utf8.first", laid_unicode_utf8_first)] }
def TextCutsSaid : Prop := textCutsRow.holds Tryd.pinned (OpenSpec.ofChange textCutsSpec)

/-- ITS FALSE NEIGHBOUR: 'it returns false'. Refute it at one input. -/
def textCutsWrong : ChangeSpec := { name := "textCuts", fn := fun _ => fun
  | [d1, d2] => { results := [.lit (.bool false)], args := [d1, d2] }
  | _ => none }
def TextCutsWrongFalsely : Prop := textCutsRow.holds Tryd.pinned (OpenSpec.ofChange textCutsWrong)

/-- 'renlaw3.TextKeys': WHATEVER THE INPUT: true; the input reads as it did. -/
def textKeysSpec : ChangeSpec := { name := "textKeys", fn := fun _ => fun
  | [d] => { results := [.lit (.bool true)], args := [d] }
  | _ => none }
def textKeysRow : OpenClaim := { program := "ytginfodcobpljaadoor", sum := "59dbda38e32c096cf04df7af6e181dd24805fcc7600a277ef967e9347a08f600", func := "rendezvous/renlaw3.TextKeys", spec := "textKeys", unfollowed := true, recurses := true, named := ["unicode/utf8.first", "unicode/utf8.acceptRanges"], apart := false, laid := [("unicode/utf8.acceptRanges", laid_unicode_utf8_acceptRanges), ("unicode/utf8.first", laid_unicode_utf8_first)] }
def TextKeysSaid : Prop := textKeysRow.holds Tryd.pinned (OpenSpec.ofChange textKeysSpec)

/-- ITS FALSE NEIGHBOUR: 'it returns false'. Refute it at one input. -/
def textKeysWrong : ChangeSpec := { name := "textKeys", fn := fun _ => fun
  | [d] => { results := [.lit (.bool false)], args := [d] }
  | _ => none }
def TextKeysWrongFalsely : Prop := textKeysRow.holds Tryd.pinned (OpenSpec.ofChange textKeysWrong)

/-- 'renlaw3.TextJoins': WHATEVER THE INPUT: true; the input reads as it did. -/
def textJoinsSpec : ChangeSpec := { name := "textJoins", fn := fun _ => fun
  | [d1, d2] => { results := [.lit (.bool true)], args := [d1, d2] }
  | _ => none }
def textJoinsRow : OpenClaim := { program := "ytginfodcobpljaadoor", sum := "59dbda38e32c096cf04df7af6e181dd24805fcc7600a277ef967e9347a08f600", func := "rendezvous/renlaw3.TextJoins", spec := "textJoins", unfollowed := true, recurses := true, named := ["unicode/utf8.first", "unicode/utf8.acceptRanges"], apart := false, laid := [("unicode/utf8.acceptRanges", laid_unicode_utf8_acceptRanges), ("unicode/utf8.first", laid_unicode_utf8_first)] }
def TextJoinsSaid : Prop := textJoinsRow.holds Tryd.pinned (OpenSpec.ofChange textJoinsSpec)

/-- ITS FALSE NEIGHBOUR: 'it returns false'. Refute it at one input. -/
def textJoinsWrong : ChangeSpec := { name := "textJoins", fn := fun _ => fun
  | [d1, d2] => { results := [.lit (.bool false)], args := [d1, d2] }
  | _ => none }
def TextJoinsWrongFalsely : Prop := textJoinsRow.holds Tryd.pinned (OpenSpec.ofChange textJoinsWrong)

/-- 'renlaw3.TextBlanks': WHATEVER THE INPUT: true; the input reads as it did. -/
def textBlanksSpec : ChangeSpec := { name := "textBlanks", fn := fun _ => fun
  | [d1, d2, d3] => { results := [.lit (.bool true)], args := [d1, d2, d3] }
  | _ => none }
def textBlanksRow : OpenClaim := { program := "ytginfodcobpljaadoor", sum := "59dbda38e32c096cf04df7af6e181dd24805fcc7600a277ef967e9347a08f600", func := "rendezvous/renlaw3.TextBlanks", spec := "textBlanks", unfollowed := true, recurses := true, named := ["unicode/utf8.first", "unicode/utf8.acceptRanges"], apart := false, laid := [("unicode/utf8.acceptRanges", laid_unicode_utf8_acceptRanges), ("unicode/utf8.first", laid_unicode_utf8_first)] }
def TextBlanksSaid : Prop := textBlanksRow.holds Tryd.pinned (OpenSpec.ofChange textBlanksSpec)

/-- ITS FALSE NEIGHBOUR: 'it returns false'. Refute it at one input. -/
def textBlanksWrong : ChangeSpec := { name := "textBlanks", fn := fun _ => fun
  | [d1, d2, d3] => { results := [.lit (.bool false)], args := [d1, d2, d3] }
  | _ => none }
def TextBlanksWrongFalsely : Prop := textBlanksRow.holds Tryd.pinned (OpenSpec.ofChange textBlanksWrong)

/-- 'renlaw3.TextDigits': WHATEVER THE INPUT: true; the input reads as it did. -/
def textDigitsSpec : ChangeSpec := { name := "textDigits", fn := fun _ => fun
  | [d1, d2] => { results := [.lit (.bool true)], args := [d1, d2] }
  | _ => none }
def textDigitsRow : OpenClaim := { program := "ytginfodcobpljaadoor", sum := "59dbda38e32c096cf04df7af6e181dd24805fcc7600a277ef967e9347a08f600", func := "rendezvous/renlaw3.TextDigits", spec := "textDigits", unfollowed := true, recurses := true, named := ["unicode/utf8.first", "unicode/utf8.acceptRanges"], apart := false, laid := [("unicode/utf8.acceptRanges", laid_unicode_utf8_acceptRanges), ("unicode/utf8.first", laid_unicode_utf8_first)] }
def TextDigitsSaid : Prop := textDigitsRow.holds Tryd.pinned (OpenSpec.ofChange textDigitsSpec)

/-- ITS FALSE NEIGHBOUR: 'it returns false'. Refute it at one input. -/
def textDigitsWrong : ChangeSpec := { name := "textDigits", fn := fun _ => fun
  | [d1, d2] => { results := [.lit (.bool false)], args := [d1, d2] }
  | _ => none }
def TextDigitsWrongFalsely : Prop := textDigitsRow.holds Tryd.pinned (OpenSpec.ofChange textDigitsWrong)

/-- 'renlaw3.TextUnits': WHATEVER THE INPUT: true; the input reads as it did. -/
def textUnitsSpec : ChangeSpec := { name := "textUnits", fn := fun _ => fun
  | [d1, d2] => { results := [.lit (.bool true)], args := [d1, d2] }
  | _ => none }
def textUnitsRow : OpenClaim := { program := "ytginfodcobpljaadoor", sum := "59dbda38e32c096cf04df7af6e181dd24805fcc7600a277ef967e9347a08f600", func := "rendezvous/renlaw3.TextUnits", spec := "textUnits", unfollowed := true, recurses := true, named := ["unicode/utf8.first", "unicode/utf8.acceptRanges"], apart := false, laid := [("unicode/utf8.acceptRanges", laid_unicode_utf8_acceptRanges), ("unicode/utf8.first", laid_unicode_utf8_first)] }
def TextUnitsSaid : Prop := textUnitsRow.holds Tryd.pinned (OpenSpec.ofChange textUnitsSpec)

/-- ITS FALSE NEIGHBOUR: 'it returns false'. Refute it at one input. -/
def textUnitsWrong : ChangeSpec := { name := "textUnits", fn := fun _ => fun
  | [d1, d2] => { results := [.lit (.bool false)], args := [d1, d2] }
  | _ => none }
def TextUnitsWrongFalsely : Prop := textUnitsRow.holds Tryd.pinned (OpenSpec.ofChange textUnitsWrong)

/-- 'renlaw3.TextBack': WHATEVER THE INPUT: true; the input reads as it did. -/
def textBackSpec : ChangeSpec := { name := "textBack", fn := fun _ => fun
  | [d1, d2] => { results := [.lit (.bool true)], args := [d1, d2] }
  | _ => none }
def textBackRow : OpenClaim := { program := "ytginfodcobpljaadoor", sum := "59dbda38e32c096cf04df7af6e181dd24805fcc7600a277ef967e9347a08f600", func := "rendezvous/renlaw3.TextBack", spec := "textBack", unfollowed := true, recurses := true, named := ["unicode/utf8.first", "unicode/utf8.acceptRanges"], apart := false, laid := [("unicode/utf8.acceptRanges", laid_unicode_utf8_acceptRanges), ("unicode/utf8.first", laid_unicode_utf8_first)] }
def TextBackSaid : Prop := textBackRow.holds Tryd.pinned (OpenSpec.ofChange textBackSpec)

/-- ITS FALSE NEIGHBOUR: 'it returns false'. Refute it at one input. -/
def textBackWrong : ChangeSpec := { name := "textBack", fn := fun _ => fun
  | [d1, d2] => { results := [.lit (.bool false)], args := [d1, d2] }
  | _ => none }
def TextBackWrongFalsely : Prop := textBackRow.holds Tryd.pinned (OpenSpec.ofChange textBackWrong)

/-- 'renlaw3.TextOrders': WHATEVER THE INPUT: true; the input reads as it did. -/
def textOrdersSpec : ChangeSpec := { name := "textOrders", fn := fun _ => fun
  | [d1, d2, d3] => { results := [.lit (.bool true)], args := [d1, d2, d3] }
  | _ => none }
def textOrdersRow : OpenClaim := { program := "ytginfodcobpljaadoor", sum := "59dbda38e32c096cf04df7af6e181dd24805fcc7600a277ef967e9347a08f600", func := "rendezvous/renlaw3.TextOrders", spec := "textOrders", unfollowed := true, recurses := true, named := ["unicode/utf8.first", "unicode/utf8.acceptRanges"], apart := false, laid := [("unicode/utf8.acceptRanges", laid_unicode_utf8_acceptRanges), ("unicode/utf8.first", laid_unicode_utf8_first)] }
def TextOrdersSaid : Prop := textOrdersRow.holds Tryd.pinned (OpenSpec.ofChange textOrdersSpec)

/-- ITS FALSE NEIGHBOUR: 'it returns false'. Refute it at one input. -/
def textOrdersWrong : ChangeSpec := { name := "textOrders", fn := fun _ => fun
  | [d1, d2, d3] => { results := [.lit (.bool false)], args := [d1, d2, d3] }
  | _ => none }
def TextOrdersWrongFalsely : Prop := textOrdersRow.holds Tryd.pinned (OpenSpec.ofChange textOrdersWrong)

/-- 'renlaw3.TextAsciis': WHATEVER THE INPUT: true; the input reads as it did. -/
def textAsciisSpec : ChangeSpec := { name := "textAsciis", fn := fun _ => fun
  | [d] => { results := [.lit (.bool true)], args := [d] }
  | _ => none }
def textAsciisRow : OpenClaim := { program := "ytginfodcobpljaadoor", sum := "59dbda38e32c096cf04df7af6e181dd24805fcc7600a277ef967e9347a08f600", func := "rendezvous/renlaw3.TextAsciis", spec := "textAsciis", unfollowed := true, recurses := true, named := ["unicode/utf8.first", "unicode/utf8.acceptRanges"], apart := false, laid := [("unicode/utf8.acceptRanges", laid_unicode_utf8_acceptRanges), ("unicode/utf8.first", laid_unicode_utf8_first)] }
def TextAsciisSaid : Prop := textAsciisRow.holds Tryd.pinned (OpenSpec.ofChange textAsciisSpec)

/-- ITS FALSE NEIGHBOUR: 'it returns false'. Refute it at one input. -/
def textAsciisWrong : ChangeSpec := { name := "textAsciis", fn := fun _ => fun
  | [d] => { results := [.lit (.bool false)], args := [d] }
  | _ => none }
def TextAsciisWrongFalsely : Prop := textAsciisRow.holds Tryd.pinned (OpenSpec.ofChange textAsciisWrong)

/-- 'renlaw3.TextTells': WHATEVER THE INPUT: true; the input reads as it did. -/
def textTellsSpec : ChangeSpec := { name := "textTells", fn := fun _ => fun
  | [d1, d2, d3] => { results := [.lit (.bool true)], args := [d1, d2, d3] }
  | _ => none }
def textTellsRow : OpenClaim := { program := "ytginfodcobpljaadoor", sum := "59dbda38e32c096cf04df7af6e181dd24805fcc7600a277ef967e9347a08f600", func := "rendezvous/renlaw3.TextTells", spec := "textTells", unfollowed := true, recurses := true, named := ["unicode/utf8.first", "unicode/utf8.acceptRanges"], apart := false, laid := [("unicode/utf8.acceptRanges", laid_unicode_utf8_acceptRanges), ("unicode/utf8.first", laid_unicode_utf8_first)] }
def TextTellsSaid : Prop := textTellsRow.holds Tryd.pinned (OpenSpec.ofChange textTellsSpec)

/-- ITS FALSE NEIGHBOUR: 'it returns false'. Refute it at one input. -/
def textTellsWrong : ChangeSpec := { name := "textTells", fn := fun _ => fun
  | [d1, d2, d3] => { results := [.lit (.bool false)], args := [d1, d2, d3] }
  | _ => none }
def TextTellsWrongFalsely : Prop := textTellsRow.holds Tryd.pinned (OpenSpec.ofChange textTellsWrong)

/- THE SECOND FORM. 'bulk': how many values and letters a reading holds, each counted each time it is reached (what is shared counts as often as it is met; a slice's spare places count too). A statement '..UptoSaid' is the law's where the arguments, and the package variables that the reading takes, are together of bulk at most 1048576: NARROWER than '..Said'. Prove '..Said' where nothing that the law and all that it calls make is longer than what came in: it says more and counts as full. Else prove '..UptoSaid'. A law counts once. -/
mutual
def uptoBulk {H : Type} : DataW H → Nat
  | .lit (.string bytes) => bytes.length + 1
  | .lit _ => 1
  | .nil => 1
  | .ptr d => uptoBulk d + 1
  | .slice elems spare => uptoBulkAll elems + uptoBulkAll spare + 1
  | .agg parts => uptoBulkAll parts + 1
  | .iface _ d => uptoBulk d + 1
  | .map entries => uptoBulkEntries entries + 1
  | .held _ => 1
def uptoBulkAll {H : Type} : List (DataW H) → Nat
  | [] => 0
  | d :: r => uptoBulk d + uptoBulkAll r
def uptoBulkEntries {H : Type} : List (Lit × DataW H) → Nat
  | [] => 0
  | x :: r => uptoBulkEntry x + uptoBulkEntries r
def uptoBulkEntry {H : Type} : Lit × DataW H → Nat
  | (.string bytes, d) => bytes.length + uptoBulk d + 1
  | (_, d) => uptoBulk d + 1
 end
def uptoSmall : (H : Type) → List (DataW H) → Bool := fun _ ds => decide (uptoBulkAll ds ≤ 1048576)
def OpenSpec.upto (s : _root_.Go.ChangeSpec) : _root_.Go.OpenSpec := { _root_.Go.OpenSpec.ofChange s with cond := some uptoSmall }

/-- 'renlaw3.TextCuts', WHERE WHAT IT READS IS OF BULK AT MOST 1048576: true; the input reads as it did. -/
def textCutsUptoRow : OpenClaim := { program := "ytginfodcobpljaadoor", sum := "59dbda38e32c096cf04df7af6e181dd24805fcc7600a277ef967e9347a08f600", func := "rendezvous/renlaw3.TextCuts", spec := "textCuts", unfollowed := true, recurses := true, named := ["unicode/utf8.first", "unicode/utf8.acceptRanges"], apart := false, laid := [("unicode/utf8.acceptRanges", laid_unicode_utf8_acceptRanges), ("unicode/utf8.first", laid_unicode_utf8_first)], narrowed := true }
def TextCutsUptoSaid : Prop := textCutsUptoRow.holds Tryd.pinned (OpenSpec.upto textCutsSpec)

/-- 'renlaw3.TextKeys', WHERE WHAT IT READS IS OF BULK AT MOST 1048576: true; the input reads as it did. -/
def textKeysUptoRow : OpenClaim := { program := "ytginfodcobpljaadoor", sum := "59dbda38e32c096cf04df7af6e181dd24805fcc7600a277ef967e9347a08f600", func := "rendezvous/renlaw3.TextKeys", spec := "textKeys", unfollowed := true, recurses := true, named := ["unicode/utf8.first", "unicode/utf8.acceptRanges"], apart := false, laid := [("unicode/utf8.acceptRanges", laid_unicode_utf8_acceptRanges), ("unicode/utf8.first", laid_unicode_utf8_first)], narrowed := true }
def TextKeysUptoSaid : Prop := textKeysUptoRow.holds Tryd.pinned (OpenSpec.upto textKeysSpec)

/-- 'renlaw3.TextJoins', WHERE WHAT IT READS IS OF BULK AT MOST 1048576: true; the input reads as it did. -/
def textJoinsUptoRow : OpenClaim := { program := "ytginfodcobpljaadoor", sum := "59dbda38e32c096cf04df7af6e181dd24805fcc7600a277ef967e9347a08f600", func := "rendezvous/renlaw3.TextJoins", spec := "textJoins", unfollowed := true, recurses := true, named := ["unicode/utf8.first", "unicode/utf8.acceptRanges"], apart := false, laid := [("unicode/utf8.acceptRanges", laid_unicode_utf8_acceptRanges), ("unicode/utf8.first", laid_unicode_utf8_first)], narrowed := true }
def TextJoinsUptoSaid : Prop := textJoinsUptoRow.holds Tryd.pinned (OpenSpec.upto textJoinsSpec)

/-- 'renlaw3.TextBlanks', WHERE WHAT IT READS IS OF BULK AT MOST 1048576: true; the input reads as it did. -/
def textBlanksUptoRow : OpenClaim := { program := "ytginfodcobpljaadoor", sum := "59dbda38e32c096cf04df7af6e181dd24805fcc7600a277ef967e9347a08f600", func := "rendezvous/renlaw3.TextBlanks", spec := "textBlanks", unfollowed := true, recurses := true, named := ["unicode/utf8.first", "unicode/utf8.acceptRanges"], apart := false, laid := [("unicode/utf8.acceptRanges", laid_unicode_utf8_acceptRanges), ("unicode/utf8.first", laid_unicode_utf8_first)], narrowed := true }
def TextBlanksUptoSaid : Prop := textBlanksUptoRow.holds Tryd.pinned (OpenSpec.upto textBlanksSpec)

/-- 'renlaw3.TextDigits', WHERE WHAT IT READS IS OF BULK AT MOST 1048576: true; the input reads as it did. -/
def textDigitsUptoRow : OpenClaim := { program := "ytginfodcobpljaadoor", sum := "59dbda38e32c096cf04df7af6e181dd24805fcc7600a277ef967e9347a08f600", func := "rendezvous/renlaw3.TextDigits", spec := "textDigits", unfollowed := true, recurses := true, named := ["unicode/utf8.first", "unicode/utf8.acceptRanges"], apart := false, laid := [("unicode/utf8.acceptRanges", laid_unicode_utf8_acceptRanges), ("unicode/utf8.first", laid_unicode_utf8_first)], narrowed := true }
def TextDigitsUptoSaid : Prop := textDigitsUptoRow.holds Tryd.pinned (OpenSpec.upto textDigitsSpec)

/-- 'renlaw3.TextUnits', WHERE WHAT IT READS IS OF BULK AT MOST 1048576: true; the input reads as it did. -/
def textUnitsUptoRow : OpenClaim := { program := "ytginfodcobpljaadoor", sum := "59dbda38e32c096cf04df7af6e181dd24805fcc7600a277ef967e9347a08f600", func := "rendezvous/renlaw3.TextUnits", spec := "textUnits", unfollowed := true, recurses := true, named := ["unicode/utf8.first", "unicode/utf8.acceptRanges"], apart := false, laid := [("unicode/utf8.acceptRanges", laid_unicode_utf8_acceptRanges), ("unicode/utf8.first", laid_unicode_utf8_first)], narrowed := true }
def TextUnitsUptoSaid : Prop := textUnitsUptoRow.holds Tryd.pinned (OpenSpec.upto textUnitsSpec)

/-- 'renlaw3.TextBack', WHERE WHAT IT READS IS OF BULK AT MOST 1048576: true; the input reads as it did. -/
def textBackUptoRow : OpenClaim := { program := "ytginfodcobpljaadoor", sum := "59dbda38e32c096cf04df7af6e181dd24805fcc7600a277ef967e9347a08f600", func := "rendezvous/renlaw3.TextBack", spec := "textBack", unfollowed := true, recurses := true, named := ["unicode/utf8.first", "unicode/utf8.acceptRanges"], apart := false, laid := [("unicode/utf8.acceptRanges", laid_unicode_utf8_acceptRanges), ("unicode/utf8.first", laid_unicode_utf8_first)], narrowed := true }
def TextBackUptoSaid : Prop := textBackUptoRow.holds Tryd.pinned (OpenSpec.upto textBackSpec)

/-- 'renlaw3.TextOrders', WHERE WHAT IT READS IS OF BULK AT MOST 1048576: true; the input reads as it did. -/
def textOrdersUptoRow : OpenClaim := { program := "ytginfodcobpljaadoor", sum := "59dbda38e32c096cf04df7af6e181dd24805fcc7600a277ef967e9347a08f600", func := "rendezvous/renlaw3.TextOrders", spec := "textOrders", unfollowed := true, recurses := true, named := ["unicode/utf8.first", "unicode/utf8.acceptRanges"], apart := false, laid := [("unicode/utf8.acceptRanges", laid_unicode_utf8_acceptRanges), ("unicode/utf8.first", laid_unicode_utf8_first)], narrowed := true }
def TextOrdersUptoSaid : Prop := textOrdersUptoRow.holds Tryd.pinned (OpenSpec.upto textOrdersSpec)

/-- 'renlaw3.TextAsciis', WHERE WHAT IT READS IS OF BULK AT MOST 1048576: true; the input reads as it did. -/
def textAsciisUptoRow : OpenClaim := { program := "ytginfodcobpljaadoor", sum := "59dbda38e32c096cf04df7af6e181dd24805fcc7600a277ef967e9347a08f600", func := "rendezvous/renlaw3.TextAsciis", spec := "textAsciis", unfollowed := true, recurses := true, named := ["unicode/utf8.first", "unicode/utf8.acceptRanges"], apart := false, laid := [("unicode/utf8.acceptRanges", laid_unicode_utf8_acceptRanges), ("unicode/utf8.first", laid_unicode_utf8_first)], narrowed := true }
def TextAsciisUptoSaid : Prop := textAsciisUptoRow.holds Tryd.pinned (OpenSpec.upto textAsciisSpec)

/-- 'renlaw3.TextTells', WHERE WHAT IT READS IS OF BULK AT MOST 1048576: true; the input reads as it did. -/
def textTellsUptoRow : OpenClaim := { program := "ytginfodcobpljaadoor", sum := "59dbda38e32c096cf04df7af6e181dd24805fcc7600a277ef967e9347a08f600", func := "rendezvous/renlaw3.TextTells", spec := "textTells", unfollowed := true, recurses := true, named := ["unicode/utf8.first", "unicode/utf8.acceptRanges"], apart := false, laid := [("unicode/utf8.acceptRanges", laid_unicode_utf8_acceptRanges), ("unicode/utf8.first", laid_unicode_utf8_first)], narrowed := true }
def TextTellsUptoSaid : Prop := textTellsUptoRow.holds Tryd.pinned (OpenSpec.upto textTellsSpec)

end Rows
end Go.Proofs.YtginfodcobpljaaDoor
