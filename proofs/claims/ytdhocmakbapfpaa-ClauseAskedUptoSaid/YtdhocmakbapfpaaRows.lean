/-
  No cell of these rows narrows 'for every input' (looked for: loops, veiled, ifaces, maps, wideKeys, modest, calm, conditions, laid).
  DERIVED. THE GIVEN ROWS OF THIS SEAT. 8 by the template 'for every input the law returns true; each argument reads behind the call as it read before'; 0 by the template 'total and deterministic' (their statements: YtdhocmakbapfpaaTotals.lean).
  GIVEN WITH THE SEED: the statements are not yours to turn. If you find one false, say at which input.
  Laid BY PROGRAM, IN A SANDBOX (cutbox-rows.mjs): the forced cells as the released guide's own fill.sh prints them over the translation d917f441327fc013… (all of the seat's roots in one cut). By AI agents, Wed Nov 11 2026. No macro, syntax, notation, axiom, sorry.
-/
import Derived.Test.YtdhocmakbapfpaaChecked
import GoSem.Claim
import GoSem.ClaimJoined
import GoSem.ClaimMapViews
import Derived.JoinedTies
import Derived.KernelRfl
namespace Go.Proofs.Ytdhocmakbapfpaa
/- THE CELL 'sum', in the pinned program and in every row, IS THE sha256 OF THE DUMP (.gsa) THAT YtdhocmakbapfpaaProg.lean LOADS. Nothing in Lean hashes anything: it is a label: what it is worth is what the hold of that sum in a sandbox is worth. -/
noncomputable def Try.pinned : Pinned := { name := "ytdhocmakbapfpaa", sum := "d917f441327fc0134acfaab09c8cf3f7aebba1e6597478715e221b70770299e9", checked := Try.checked }
namespace Rows
def none {H : Type} : Left H := { results := [], args := [] }

/-- 'mandatelaw06.ClauseParses': WHATEVER THE INPUT: true; the input reads as it did. -/
def clauseParsesSpec : ChangeSpec := { name := "clauseParses", fn := fun _ => fun
  | [d] => { results := [.lit (.bool true)], args := [d] }
  | _ => none }
def clauseParsesRow : OpenClaim := { program := "ytdhocmakbapfpaa", sum := "d917f441327fc0134acfaab09c8cf3f7aebba1e6597478715e221b70770299e9", func := "mandate/mandatelaw06.ClauseParses", spec := "clauseParses", inPlace := ["internal/abi.NoEscape", "internal/bytealg.MakeNoZero"], unfollowed := true, recurses := true, apart := false }
def ClauseParsesSaid : Prop := clauseParsesRow.holds Try.pinned (OpenSpec.ofChange clauseParsesSpec)

/-- ITS FALSE NEIGHBOUR: 'it returns false'. Refute it at one input. -/
def clauseParsesWrong : ChangeSpec := { name := "clauseParses", fn := fun _ => fun
  | [d] => { results := [.lit (.bool false)], args := [d] }
  | _ => none }
def ClauseParsesWrongFalsely : Prop := clauseParsesRow.holds Try.pinned (OpenSpec.ofChange clauseParsesWrong)

/-- 'mandatelaw06.ClauseLits': WHATEVER THE INPUT: true; the input reads as it did. -/
def clauseLitsSpec : ChangeSpec := { name := "clauseLits", fn := fun _ => fun
  | [d] => { results := [.lit (.bool true)], args := [d] }
  | _ => none }
def clauseLitsRow : OpenClaim := { program := "ytdhocmakbapfpaa", sum := "d917f441327fc0134acfaab09c8cf3f7aebba1e6597478715e221b70770299e9", func := "mandate/mandatelaw06.ClauseLits", spec := "clauseLits", inPlace := ["internal/abi.NoEscape", "internal/bytealg.MakeNoZero"], unfollowed := true, recurses := true, apart := false }
def ClauseLitsSaid : Prop := clauseLitsRow.holds Try.pinned (OpenSpec.ofChange clauseLitsSpec)

/-- ITS FALSE NEIGHBOUR: 'it returns false'. Refute it at one input. -/
def clauseLitsWrong : ChangeSpec := { name := "clauseLits", fn := fun _ => fun
  | [d] => { results := [.lit (.bool false)], args := [d] }
  | _ => none }
def ClauseLitsWrongFalsely : Prop := clauseLitsRow.holds Try.pinned (OpenSpec.ofChange clauseLitsWrong)

/-- 'mandatelaw06.ClausePrints': WHATEVER THE INPUT: true; the input reads as it did. -/
def clausePrintsSpec : ChangeSpec := { name := "clausePrints", fn := fun _ => fun
  | [d1, d2] => { results := [.lit (.bool true)], args := [d1, d2] }
  | _ => none }
def clausePrintsRow : OpenClaim := { program := "ytdhocmakbapfpaa", sum := "d917f441327fc0134acfaab09c8cf3f7aebba1e6597478715e221b70770299e9", func := "mandate/mandatelaw06.ClausePrints", spec := "clausePrints", inPlace := ["internal/abi.NoEscape", "internal/bytealg.MakeNoZero"], unfollowed := true, recurses := true, apart := false }
def ClausePrintsSaid : Prop := clausePrintsRow.holds Try.pinned (OpenSpec.ofChange clausePrintsSpec)

/-- ITS FALSE NEIGHBOUR: 'it returns false'. Refute it at one input. -/
def clausePrintsWrong : ChangeSpec := { name := "clausePrints", fn := fun _ => fun
  | [d1, d2] => { results := [.lit (.bool false)], args := [d1, d2] }
  | _ => none }
def ClausePrintsWrongFalsely : Prop := clausePrintsRow.holds Try.pinned (OpenSpec.ofChange clausePrintsWrong)

/-- 'mandatelaw06.ClauseVars': WHATEVER THE INPUT: true; the input reads as it did. -/
def clauseVarsSpec : ChangeSpec := { name := "clauseVars", fn := fun _ => fun
  | [d] => { results := [.lit (.bool true)], args := [d] }
  | _ => none }
def clauseVarsRow : OpenClaim := { program := "ytdhocmakbapfpaa", sum := "d917f441327fc0134acfaab09c8cf3f7aebba1e6597478715e221b70770299e9", func := "mandate/mandatelaw06.ClauseVars", spec := "clauseVars", inPlace := ["internal/abi.NoEscape", "internal/bytealg.MakeNoZero"], unfollowed := true, recurses := true, apart := false }
def ClauseVarsSaid : Prop := clauseVarsRow.holds Try.pinned (OpenSpec.ofChange clauseVarsSpec)

/-- ITS FALSE NEIGHBOUR: 'it returns false'. Refute it at one input. -/
def clauseVarsWrong : ChangeSpec := { name := "clauseVars", fn := fun _ => fun
  | [d] => { results := [.lit (.bool false)], args := [d] }
  | _ => none }
def ClauseVarsWrongFalsely : Prop := clauseVarsRow.holds Try.pinned (OpenSpec.ofChange clauseVarsWrong)

/-- 'mandatelaw06.ClauseBack': WHATEVER THE INPUT: true; the input reads as it did. -/
def clauseBackSpec : ChangeSpec := { name := "clauseBack", fn := fun _ => fun
  | [d1, d2] => { results := [.lit (.bool true)], args := [d1, d2] }
  | _ => none }
def clauseBackRow : OpenClaim := { program := "ytdhocmakbapfpaa", sum := "d917f441327fc0134acfaab09c8cf3f7aebba1e6597478715e221b70770299e9", func := "mandate/mandatelaw06.ClauseBack", spec := "clauseBack", inPlace := ["internal/abi.NoEscape", "internal/bytealg.MakeNoZero"], unfollowed := true, recurses := true, apart := false }
def ClauseBackSaid : Prop := clauseBackRow.holds Try.pinned (OpenSpec.ofChange clauseBackSpec)

/-- ITS FALSE NEIGHBOUR: 'it returns false'. Refute it at one input. -/
def clauseBackWrong : ChangeSpec := { name := "clauseBack", fn := fun _ => fun
  | [d1, d2] => { results := [.lit (.bool false)], args := [d1, d2] }
  | _ => none }
def ClauseBackWrongFalsely : Prop := clauseBackRow.holds Try.pinned (OpenSpec.ofChange clauseBackWrong)

/-- 'mandatelaw06.ClauseAsked': WHATEVER THE INPUT: true; the input reads as it did. -/
def clauseAskedSpec : ChangeSpec := { name := "clauseAsked", fn := fun _ => fun
  | [d1, d2] => { results := [.lit (.bool true)], args := [d1, d2] }
  | _ => none }
def clauseAskedRow : OpenClaim := { program := "ytdhocmakbapfpaa", sum := "d917f441327fc0134acfaab09c8cf3f7aebba1e6597478715e221b70770299e9", func := "mandate/mandatelaw06.ClauseAsked", spec := "clauseAsked", inPlace := ["internal/abi.NoEscape", "internal/bytealg.MakeNoZero"], unfollowed := true, recurses := true, apart := false }
def ClauseAskedSaid : Prop := clauseAskedRow.holds Try.pinned (OpenSpec.ofChange clauseAskedSpec)

/-- ITS FALSE NEIGHBOUR: 'it returns false'. Refute it at one input. -/
def clauseAskedWrong : ChangeSpec := { name := "clauseAsked", fn := fun _ => fun
  | [d1, d2] => { results := [.lit (.bool false)], args := [d1, d2] }
  | _ => none }
def ClauseAskedWrongFalsely : Prop := clauseAskedRow.holds Try.pinned (OpenSpec.ofChange clauseAskedWrong)

/-- 'mandatelaw06.ClauseBlanks': WHATEVER THE INPUT: true; the input reads as it did. -/
def clauseBlanksSpec : ChangeSpec := { name := "clauseBlanks", fn := fun _ => fun
  | [d1, d2] => { results := [.lit (.bool true)], args := [d1, d2] }
  | _ => none }
def clauseBlanksRow : OpenClaim := { program := "ytdhocmakbapfpaa", sum := "d917f441327fc0134acfaab09c8cf3f7aebba1e6597478715e221b70770299e9", func := "mandate/mandatelaw06.ClauseBlanks", spec := "clauseBlanks", inPlace := ["internal/abi.NoEscape", "internal/bytealg.MakeNoZero"], unfollowed := true, recurses := true, apart := false }
def ClauseBlanksSaid : Prop := clauseBlanksRow.holds Try.pinned (OpenSpec.ofChange clauseBlanksSpec)

/-- ITS FALSE NEIGHBOUR: 'it returns false'. Refute it at one input. -/
def clauseBlanksWrong : ChangeSpec := { name := "clauseBlanks", fn := fun _ => fun
  | [d1, d2] => { results := [.lit (.bool false)], args := [d1, d2] }
  | _ => none }
def ClauseBlanksWrongFalsely : Prop := clauseBlanksRow.holds Try.pinned (OpenSpec.ofChange clauseBlanksWrong)

/-- 'mandatelaw06.ClauseFacts': WHATEVER THE INPUT: true; the input reads as it did. -/
def clauseFactsSpec : ChangeSpec := { name := "clauseFacts", fn := fun _ => fun
  | [d] => { results := [.lit (.bool true)], args := [d] }
  | _ => none }
def clauseFactsRow : OpenClaim := { program := "ytdhocmakbapfpaa", sum := "d917f441327fc0134acfaab09c8cf3f7aebba1e6597478715e221b70770299e9", func := "mandate/mandatelaw06.ClauseFacts", spec := "clauseFacts", inPlace := ["internal/abi.NoEscape", "internal/bytealg.MakeNoZero"], unfollowed := true, recurses := true, apart := false }
def ClauseFactsSaid : Prop := clauseFactsRow.holds Try.pinned (OpenSpec.ofChange clauseFactsSpec)

/-- ITS FALSE NEIGHBOUR: 'it returns false'. Refute it at one input. -/
def clauseFactsWrong : ChangeSpec := { name := "clauseFacts", fn := fun _ => fun
  | [d] => { results := [.lit (.bool false)], args := [d] }
  | _ => none }
def ClauseFactsWrongFalsely : Prop := clauseFactsRow.holds Try.pinned (OpenSpec.ofChange clauseFactsWrong)

/- THE SECOND FORM. 'bulk': how many values and letters a reading holds, each counted each time it is reached (what is shared counts as often as it is met; a slice's spare places count too). A statement '..UptoSaid' is the law's where the arguments, and the package variables that the reading takes, are together of bulk at most 1048576: NARROWER than '..Said'. Prove '..Said' where nothing that the law and all that it calls make is longer than what came in: it says more and counts as full. Else prove '..UptoSaid'. A law counts once. -/
mutual
def uptoBulk {H : Type} : DataW H → Nat
  | .lit (.string bytes) => bytes.length + 1
  | .lit _ => 1
  | .nil => 1
  | .ptr d => uptoBulk d + 1
  | .slice elems spare => uptoBulkAll elems + uptoBulkAll spare + 1
  | .agg parts => uptoBulkAll parts + 1
  | .iface _ d => uptoBulk d + 1
  | .map entries => uptoBulkEntries entries + 1
  | .held _ => 1
def uptoBulkAll {H : Type} : List (DataW H) → Nat
  | [] => 0
  | d :: r => uptoBulk d + uptoBulkAll r
def uptoBulkEntries {H : Type} : List (Lit × DataW H) → Nat
  | [] => 0
  | x :: r => uptoBulkEntry x + uptoBulkEntries r
def uptoBulkEntry {H : Type} : Lit × DataW H → Nat
  | (.string bytes, d) => bytes.length + uptoBulk d + 1
  | (_, d) => uptoBulk d + 1
 end
def uptoSmall : (H : Type) → List (DataW H) → Bool := fun _ ds => decide (uptoBulkAll ds ≤ 1048576)
def OpenSpec.upto (s : _root_.Go.ChangeSpec) : _root_.Go.OpenSpec := { _root_.Go.OpenSpec.ofChange s with cond := some uptoSmall }

/-- 'mandatelaw06.ClauseParses', WHERE WHAT IT READS IS OF BULK AT MOST 1048576: true; the input reads as it did. -/
def clauseParsesUptoRow : OpenClaim := { program := "ytdhocmakbapfpaa", sum := "d917f441327fc0134acfaab09c8cf3f7aebba1e6597478715e221b70770299e9", func := "mandate/mandatelaw06.ClauseParses", spec := "clauseParses", inPlace := ["internal/abi.NoEscape", "internal/bytealg.MakeNoZero"], unfollowed := true, recurses := true, apart := false, narrowed := true }
def ClauseParsesUptoSaid : Prop := clauseParsesUptoRow.holds Try.pinned (OpenSpec.upto clauseParsesSpec)

/-- 'mandatelaw06.ClauseLits', WHERE WHAT IT READS IS OF BULK AT MOST 1048576: true; the input reads as it did. -/
def clauseLitsUptoRow : OpenClaim := { program := "ytdhocmakbapfpaa", sum := "d917f441327fc0134acfaab09c8cf3f7aebba1e6597478715e221b70770299e9", func := "mandate/mandatelaw06.ClauseLits", spec := "clauseLits", inPlace := ["internal/abi.NoEscape", "internal/bytealg.MakeNoZero"], unfollowed := true, recurses := true, apart := false, narrowed := true }
def ClauseLitsUptoSaid : Prop := clauseLitsUptoRow.holds Try.pinned (OpenSpec.upto clauseLitsSpec)

/-- 'mandatelaw06.ClausePrints', WHERE WHAT IT READS IS OF BULK AT MOST 1048576: true; the input reads as it did. -/
def clausePrintsUptoRow : OpenClaim := { program := "ytdhocmakbapfpaa", sum := "d917f441327fc0134acfaab09c8cf3f7aebba1e6597478715e221b70770299e9", func := "mandate/mandatelaw06.ClausePrints", spec := "clausePrints", inPlace := ["internal/abi.NoEscape", "internal/bytealg.MakeNoZero"], unfollowed := true, recurses := true, apart := false, narrowed := true }
def ClausePrintsUptoSaid : Prop := clausePrintsUptoRow.holds Try.pinned (OpenSpec.upto clausePrintsSpec)

/-- 'mandatelaw06.ClauseVars', WHERE WHAT IT READS IS OF BULK AT MOST 1048576: true; the input reads as it did. -/
def clauseVarsUptoRow : OpenClaim := { program := "ytdhocmakbapfpaa", sum := "d917f441327fc0134acfaab09c8cf3f7aebba1e6597478715e221b70770299e9", func := "mandate/mandatelaw06.ClauseVars", spec := "clauseVars", inPlace := ["internal/abi.NoEscape", "internal/bytealg.MakeNoZero"], unfollowed := true, recurses := true, apart := false, narrowed := true }
def ClauseVarsUptoSaid : Prop := clauseVarsUptoRow.holds Try.pinned (OpenSpec.upto clauseVarsSpec)

/-- 'mandatelaw06.ClauseBack', WHERE WHAT IT READS IS OF BULK AT MOST 1048576: true; the input reads as it did. -/
def clauseBackUptoRow : OpenClaim := { program := "ytdhocmakbapfpaa", sum := "d917f441327fc0134acfaab09c8cf3f7aebba1e6597478715e221b70770299e9", func := "mandate/mandatelaw06.ClauseBack", spec := "clauseBack", inPlace := ["internal/abi.NoEscape", "internal/bytealg.MakeNoZero"], unfollowed := true, recurses := true, apart := false, narrowed := true }
def ClauseBackUptoSaid : Prop := clauseBackUptoRow.holds Try.pinned (OpenSpec.upto clauseBackSpec)

/-- 'mandatelaw06.ClauseAsked', WHERE WHAT IT READS IS OF BULK AT MOST 1048576: true; the input reads as it did. -/
def clauseAskedUptoRow : OpenClaim := { program := "ytdhocmakbapfpaa", sum := "d917f441327fc0134acfaab09c8cf3f7aebba1e6597478715e221b70770299e9", func := "mandate/mandatelaw06.ClauseAsked", spec := "clauseAsked", inPlace := ["internal/abi.NoEscape", "internal/bytealg.MakeNoZero"], unfollowed := true, recurses := true, apart := false, narrowed := true }
def ClauseAskedUptoSaid : Prop := clauseAskedUptoRow.holds Try.pinned (OpenSpec.upto clauseAskedSpec)

/-- 'mandatelaw06.ClauseBlanks', WHERE WHAT IT READS IS OF BULK AT MOST 1048576: true; the input reads as it did. -/
def clauseBlanksUptoRow : OpenClaim := { program := "ytdhocmakbapfpaa", sum := "d917f441327fc0134acfaab09c8cf3f7aebba1e6597478715e221b70770299e9", func := "mandate/mandatelaw06.ClauseBlanks", spec := "clauseBlanks", inPlace := ["internal/abi.NoEscape", "internal/bytealg.MakeNoZero"], unfollowed := true, recurses := true, apart := false, narrowed := true }
def ClauseBlanksUptoSaid : Prop := clauseBlanksUptoRow.holds Try.pinned (OpenSpec.upto clauseBlanksSpec)

/-- 'mandatelaw06.ClauseFacts', WHERE WHAT IT READS IS OF BULK AT MOST 1048576: true; the input reads as it did. -/
def clauseFactsUptoRow : OpenClaim := { program := "ytdhocmakbapfpaa", sum := "d917f441327fc0134acfaab09c8cf3f7aebba1e6597478715e221b70770299e9", func := "mandate/mandatelaw06.ClauseFacts", spec := "clauseFacts", inPlace := ["internal/abi.NoEscape", "internal/bytealg.MakeNoZero"], unfollowed := true, recurses := true, apart := false, narrowed := true }
def ClauseFactsUptoSaid : Prop := clauseFactsUptoRow.holds Try.pinned (OpenSpec.upto clauseFactsSpec)

end Rows
end Go.Proofs.Ytdhocmakbapfpaa
