/-
  NARROWER THAN 'FOR EVERY INPUT', by the rows' own cells (each row's printed sentence says how): KindWrong: loops, laid · KindNames: laid · KindDeep: laid · KindChecks: loops, laid · KindAlike: loops, laid · KindWhole: loops, laid.
  DERIVED. THE GIVEN ROWS OF THIS SEAT. 6 by the template 'for every input the law returns true; each argument reads behind the call as it read before'; 0 by the template 'total and deterministic' (their statements: YtmkfohiocklkoaaDoorTotals.lean).
  GIVEN WITH THE SEED: the statements are not yours to turn. If you find one false, say at which input.
  Laid BY PROGRAM, IN A SANDBOX (cutbox-rows.mjs): the forced cells as the released guide's own fill.sh prints them over the translation 8af66d73d934704d… (all of the seat's roots in one cut). By AI agents, Wed Nov 11 2026. No macro, syntax, notation, axiom, sorry.
-/
import Derived.Test.YtmkfohiocklkoaaDoorChecked
import GoSem.Claim
import GoSem.ClaimJoined
import GoSem.ClaimMapViews
import Derived.JoinedTies
import Derived.KernelRfl
namespace Go.Proofs.YtmkfohiocklkoaaDoor
/- THE CELL 'sum', in the pinned program and in every row, IS THE sha256 OF THE DUMP (.gsa) THAT YtmkfohiocklkoaaDoorProg.lean LOADS. Nothing in Lean hashes anything: it is a label: what it is worth is what the hold of that sum in a sandbox is worth. -/
noncomputable def Tryd.pinned : Pinned := { name := "ytmkfohiocklkoaadoor", sum := "8af66d73d934704da15a63f447915f7be6809a5323400dd118a8a12eeca1371f", checked := Tryd.checked }
namespace Rows
def none {H : Type} : Left H := { results := [], args := [] }

/- WHAT THE LISTED PACKAGE-LEVEL VARIABLES READ AS WHEN THE CALL BEGINS. Each datum BY PROGRAM (the guide's laid-datum.mjs) off the statement by which the dump's own 'gosem.cut.vars' lays the variable. In a bare row this is a premise. The card (YtmkfohiocklkoaaDoorCards.lean) ties it to the program's text. -/
def laid_prompter_kind_reserved {H : Type} : DataW H := .slice [.lit (.string [98, 111, 111, 108]), .lit (.string [99, 97, 114, 100]), .lit (.string [108, 111, 110, 103]), .lit (.string [114, 101, 97, 108]), .lit (.string [116, 101, 120, 116]), .lit (.string [115, 101, 113]), .lit (.string [111, 102]), .lit (.string [114, 101, 99, 111, 114, 100]), .lit (.string [101, 110, 117, 109]), .lit (.string [99, 104, 111, 105, 99, 101]), .lit (.string [112, 114, 111, 103, 114, 97, 109]), .lit (.string [118, 101, 114, 115, 105, 111, 110]), .lit (.string [116, 121, 112, 101]), .lit (.string [101, 114, 114, 111, 114]), .lit (.string [112, 114, 111, 99]), .lit (.string [114, 101, 116, 117, 114, 110, 115]), .lit (.string [99, 111, 108, 108, 97, 116, 101]), .lit (.string [116, 105, 109, 101, 111, 117, 116]), .lit (.string [102, 105, 114, 115, 116]), .lit (.string [109, 97, 106, 111, 114, 105, 116, 121]), .lit (.string [97, 108, 108])] []

/-- 'prompterlaw05.KindWrong': WHATEVER THE INPUT: true; the input reads as it did. -/
def kindWrongSpec : ChangeSpec := { name := "kindWrong", fn := fun _ => fun
  | [d1, d2, d3] => { results := [.lit (.bool true)], args := [d1, d2, d3] }
  | _ => none }
def kindWrongRow : OpenClaim := { program := "ytmkfohiocklkoaadoor", sum := "8af66d73d934704da15a63f447915f7be6809a5323400dd118a8a12eeca1371f", func := "prompter/prompterlaw05.KindWrong", spec := "kindWrong", unfollowed := true, recurses := true, named := ["prompter/kind.reserved"], loops := true, apart := false, laid := [("prompter/kind.reserved", laid_prompter_kind_reserved)] }
def KindWrongSaid : Prop := kindWrongRow.holds Tryd.pinned (OpenSpec.ofChange kindWrongSpec)

/-- ITS FALSE NEIGHBOUR: 'it returns false'. Refute it at one input. -/
def kindWrongWrong : ChangeSpec := { name := "kindWrong", fn := fun _ => fun
  | [d1, d2, d3] => { results := [.lit (.bool false)], args := [d1, d2, d3] }
  | _ => none }
def KindWrongWrongFalsely : Prop := kindWrongRow.holds Tryd.pinned (OpenSpec.ofChange kindWrongWrong)

/-- 'prompterlaw05.KindNames': WHATEVER THE INPUT: true; the input reads as it did. -/
def kindNamesSpec : ChangeSpec := { name := "kindNames", fn := fun _ => fun
  | [d1, d2] => { results := [.lit (.bool true)], args := [d1, d2] }
  | _ => none }
def kindNamesRow : OpenClaim := { program := "ytmkfohiocklkoaadoor", sum := "8af66d73d934704da15a63f447915f7be6809a5323400dd118a8a12eeca1371f", func := "prompter/prompterlaw05.KindNames", spec := "kindNames", unfollowed := true, recurses := true, named := ["prompter/kind.reserved"], apart := false, laid := [("prompter/kind.reserved", laid_prompter_kind_reserved)] }
def KindNamesSaid : Prop := kindNamesRow.holds Tryd.pinned (OpenSpec.ofChange kindNamesSpec)

/-- ITS FALSE NEIGHBOUR: 'it returns false'. Refute it at one input. -/
def kindNamesWrong : ChangeSpec := { name := "kindNames", fn := fun _ => fun
  | [d1, d2] => { results := [.lit (.bool false)], args := [d1, d2] }
  | _ => none }
def KindNamesWrongFalsely : Prop := kindNamesRow.holds Tryd.pinned (OpenSpec.ofChange kindNamesWrong)

/-- 'prompterlaw05.KindDeep': WHATEVER THE INPUT: true; the input reads as it did. -/
def kindDeepSpec : ChangeSpec := { name := "kindDeep", fn := fun _ => fun
  | [d1, d2] => { results := [.lit (.bool true)], args := [d1, d2] }
  | _ => none }
def kindDeepRow : OpenClaim := { program := "ytmkfohiocklkoaadoor", sum := "8af66d73d934704da15a63f447915f7be6809a5323400dd118a8a12eeca1371f", func := "prompter/prompterlaw05.KindDeep", spec := "kindDeep", unfollowed := true, recurses := true, named := ["prompter/kind.reserved"], apart := false, laid := [("prompter/kind.reserved", laid_prompter_kind_reserved)] }
def KindDeepSaid : Prop := kindDeepRow.holds Tryd.pinned (OpenSpec.ofChange kindDeepSpec)

/-- ITS FALSE NEIGHBOUR: 'it returns false'. Refute it at one input. -/
def kindDeepWrong : ChangeSpec := { name := "kindDeep", fn := fun _ => fun
  | [d1, d2] => { results := [.lit (.bool false)], args := [d1, d2] }
  | _ => none }
def KindDeepWrongFalsely : Prop := kindDeepRow.holds Tryd.pinned (OpenSpec.ofChange kindDeepWrong)

/-- 'prompterlaw05.KindChecks': WHATEVER THE INPUT: true; the input reads as it did. -/
def kindChecksSpec : ChangeSpec := { name := "kindChecks", fn := fun _ => fun
  | [d] => { results := [.lit (.bool true)], args := [d] }
  | _ => none }
def kindChecksRow : OpenClaim := { program := "ytmkfohiocklkoaadoor", sum := "8af66d73d934704da15a63f447915f7be6809a5323400dd118a8a12eeca1371f", func := "prompter/prompterlaw05.KindChecks", spec := "kindChecks", unfollowed := true, recurses := true, named := ["prompter/kind.reserved"], loops := true, apart := false, laid := [("prompter/kind.reserved", laid_prompter_kind_reserved)] }
def KindChecksSaid : Prop := kindChecksRow.holds Tryd.pinned (OpenSpec.ofChange kindChecksSpec)

/-- ITS FALSE NEIGHBOUR: 'it returns false'. Refute it at one input. -/
def kindChecksWrong : ChangeSpec := { name := "kindChecks", fn := fun _ => fun
  | [d] => { results := [.lit (.bool false)], args := [d] }
  | _ => none }
def KindChecksWrongFalsely : Prop := kindChecksRow.holds Tryd.pinned (OpenSpec.ofChange kindChecksWrong)

/-- 'prompterlaw05.KindAlike': WHATEVER THE INPUT: true; the input reads as it did. -/
def kindAlikeSpec : ChangeSpec := { name := "kindAlike", fn := fun _ => fun
  | [d1, d2] => { results := [.lit (.bool true)], args := [d1, d2] }
  | _ => none }
def kindAlikeRow : OpenClaim := { program := "ytmkfohiocklkoaadoor", sum := "8af66d73d934704da15a63f447915f7be6809a5323400dd118a8a12eeca1371f", func := "prompter/prompterlaw05.KindAlike", spec := "kindAlike", unfollowed := true, recurses := true, named := ["prompter/kind.reserved"], loops := true, apart := false, laid := [("prompter/kind.reserved", laid_prompter_kind_reserved)] }
def KindAlikeSaid : Prop := kindAlikeRow.holds Tryd.pinned (OpenSpec.ofChange kindAlikeSpec)

/-- ITS FALSE NEIGHBOUR: 'it returns false'. Refute it at one input. -/
def kindAlikeWrong : ChangeSpec := { name := "kindAlike", fn := fun _ => fun
  | [d1, d2] => { results := [.lit (.bool false)], args := [d1, d2] }
  | _ => none }
def KindAlikeWrongFalsely : Prop := kindAlikeRow.holds Tryd.pinned (OpenSpec.ofChange kindAlikeWrong)

/-- 'prompterlaw05.KindWhole': WHATEVER THE INPUT: true; the input reads as it did. -/
def kindWholeSpec : ChangeSpec := { name := "kindWhole", fn := fun _ => fun
  | [d1, d2, d3] => { results := [.lit (.bool true)], args := [d1, d2, d3] }
  | _ => none }
def kindWholeRow : OpenClaim := { program := "ytmkfohiocklkoaadoor", sum := "8af66d73d934704da15a63f447915f7be6809a5323400dd118a8a12eeca1371f", func := "prompter/prompterlaw05.KindWhole", spec := "kindWhole", unfollowed := true, recurses := true, named := ["prompter/kind.reserved"], loops := true, apart := false, laid := [("prompter/kind.reserved", laid_prompter_kind_reserved)] }
def KindWholeSaid : Prop := kindWholeRow.holds Tryd.pinned (OpenSpec.ofChange kindWholeSpec)

/-- ITS FALSE NEIGHBOUR: 'it returns false'. Refute it at one input. -/
def kindWholeWrong : ChangeSpec := { name := "kindWhole", fn := fun _ => fun
  | [d1, d2, d3] => { results := [.lit (.bool false)], args := [d1, d2, d3] }
  | _ => none }
def KindWholeWrongFalsely : Prop := kindWholeRow.holds Tryd.pinned (OpenSpec.ofChange kindWholeWrong)

/- THE SECOND FORM. 'bulk': how many values and letters a reading holds, each counted each time it is reached (what is shared counts as often as it is met; a slice's spare places count too). A statement '..UptoSaid' is the law's where the arguments, and the package variables that the reading takes, are together of bulk at most 1048576: NARROWER than '..Said'. Prove '..Said' where nothing that the law and all that it calls make is longer than what came in: it says more and counts as full. Else prove '..UptoSaid'. A law counts once. -/
mutual
def uptoBulk {H : Type} : DataW H → Nat
  | .lit (.string bytes) => bytes.length + 1
  | .lit _ => 1
  | .nil => 1
  | .ptr d => uptoBulk d + 1
  | .slice elems spare => uptoBulkAll elems + uptoBulkAll spare + 1
  | .agg parts => uptoBulkAll parts + 1
  | .iface _ d => uptoBulk d + 1
  | .map entries => uptoBulkEntries entries + 1
  | .held _ => 1
def uptoBulkAll {H : Type} : List (DataW H) → Nat
  | [] => 0
  | d :: r => uptoBulk d + uptoBulkAll r
def uptoBulkEntries {H : Type} : List (Lit × DataW H) → Nat
  | [] => 0
  | x :: r => uptoBulkEntry x + uptoBulkEntries r
def uptoBulkEntry {H : Type} : Lit × DataW H → Nat
  | (.string bytes, d) => bytes.length + uptoBulk d + 1
  | (_, d) => uptoBulk d + 1
 end
def uptoSmall : (H : Type) → List (DataW H) → Bool := fun _ ds => decide (uptoBulkAll ds ≤ 1048576)
def OpenSpec.upto (s : _root_.Go.ChangeSpec) : _root_.Go.OpenSpec := { _root_.Go.OpenSpec.ofChange s with cond := some uptoSmall }

/-- 'prompterlaw05.KindWrong', WHERE WHAT IT READS IS OF BULK AT MOST 1048576: true; the input reads as it did. -/
def kindWrongUptoRow : OpenClaim := { program := "ytmkfohiocklkoaadoor", sum := "8af66d73d934704da15a63f447915f7be6809a5323400dd118a8a12eeca1371f", func := "prompter/prompterlaw05.KindWrong", spec := "kindWrong", unfollowed := true, recurses := true, named := ["prompter/kind.reserved"], loops := true, apart := false, laid := [("prompter/kind.reserved", laid_prompter_kind_reserved)], narrowed := true }
def KindWrongUptoSaid : Prop := kindWrongUptoRow.holds Tryd.pinned (OpenSpec.upto kindWrongSpec)

/-- 'prompterlaw05.KindNames', WHERE WHAT IT READS IS OF BULK AT MOST 1048576: true; the input reads as it did. -/
def kindNamesUptoRow : OpenClaim := { program := "ytmkfohiocklkoaadoor", sum := "8af66d73d934704da15a63f447915f7be6809a5323400dd118a8a12eeca1371f", func := "prompter/prompterlaw05.KindNames", spec := "kindNames", unfollowed := true, recurses := true, named := ["prompter/kind.reserved"], apart := false, laid := [("prompter/kind.reserved", laid_prompter_kind_reserved)], narrowed := true }
def KindNamesUptoSaid : Prop := kindNamesUptoRow.holds Tryd.pinned (OpenSpec.upto kindNamesSpec)

/-- 'prompterlaw05.KindDeep', WHERE WHAT IT READS IS OF BULK AT MOST 1048576: true; the input reads as it did. -/
def kindDeepUptoRow : OpenClaim := { program := "ytmkfohiocklkoaadoor", sum := "8af66d73d934704da15a63f447915f7be6809a5323400dd118a8a12eeca1371f", func := "prompter/prompterlaw05.KindDeep", spec := "kindDeep", unfollowed := true, recurses := true, named := ["prompter/kind.reserved"], apart := false, laid := [("prompter/kind.reserved", laid_prompter_kind_reserved)], narrowed := true }
def KindDeepUptoSaid : Prop := kindDeepUptoRow.holds Tryd.pinned (OpenSpec.upto kindDeepSpec)

/-- 'prompterlaw05.KindChecks', WHERE WHAT IT READS IS OF BULK AT MOST 1048576: true; the input reads as it did. -/
def kindChecksUptoRow : OpenClaim := { program := "ytmkfohiocklkoaadoor", sum := "8af66d73d934704da15a63f447915f7be6809a5323400dd118a8a12eeca1371f", func := "prompter/prompterlaw05.KindChecks", spec := "kindChecks", unfollowed := true, recurses := true, named := ["prompter/kind.reserved"], loops := true, apart := false, laid := [("prompter/kind.reserved", laid_prompter_kind_reserved)], narrowed := true }
def KindChecksUptoSaid : Prop := kindChecksUptoRow.holds Tryd.pinned (OpenSpec.upto kindChecksSpec)

/-- 'prompterlaw05.KindAlike', WHERE WHAT IT READS IS OF BULK AT MOST 1048576: true; the input reads as it did. -/
def kindAlikeUptoRow : OpenClaim := { program := "ytmkfohiocklkoaadoor", sum := "8af66d73d934704da15a63f447915f7be6809a5323400dd118a8a12eeca1371f", func := "prompter/prompterlaw05.KindAlike", spec := "kindAlike", unfollowed := true, recurses := true, named := ["prompter/kind.reserved"], loops := true, apart := false, laid := [("prompter/kind.reserved", laid_prompter_kind_reserved)], narrowed := true }
def KindAlikeUptoSaid : Prop := kindAlikeUptoRow.holds Tryd.pinned (OpenSpec.upto kindAlikeSpec)

/-- 'prompterlaw05.KindWhole', WHERE WHAT IT READS IS OF BULK AT MOST 1048576: true; the input reads as it did. -/
def kindWholeUptoRow : OpenClaim := { program := "ytmkfohiocklkoaadoor", sum := "8af66d73d934704da15a63f447915f7be6809a5323400dd118a8a12eeca1371f", func := "prompter/prompterlaw05.KindWhole", spec := "kindWhole", unfollowed := true, recurses := true, named := ["prompter/kind.reserved"], loops := true, apart := false, laid := [("prompter/kind.reserved", laid_prompter_kind_reserved)], narrowed := true }
def KindWholeUptoSaid : Prop := kindWholeUptoRow.holds Tryd.pinned (OpenSpec.upto kindWholeSpec)

end Rows
end Go.Proofs.YtmkfohiocklkoaaDoor
