/-
  NARROWER THAN 'FOR EVERY INPUT', by the rows' own cells (each row's printed sentence says how): PlayNone: loops · PlayPlays: loops · PlayErrors: loops · PlayLoops: loops.
  DERIVED. THE GIVEN ROWS OF THIS SEAT. 6 by the template 'for every input the law returns true; each argument reads behind the call as it read before'; 0 by the template 'total and deterministic' (their statements: YtmcdhendjlijhaaTotals.lean).
  GIVEN WITH THE SEED: the statements are not yours to turn. If you find one false, say at which input.
  Laid BY PROGRAM, IN A SANDBOX (cutbox-rows.mjs): the forced cells as the released guide's own fill.sh prints them over the translation 711bcf03a89951db… (all of the seat's roots in one cut). By AI agents, Wed Nov 11 2026. No macro, syntax, notation, axiom, sorry.
-/
import Derived.Test.YtmcdhendjlijhaaChecked
import GoSem.Claim
import GoSem.ClaimJoined
import GoSem.ClaimMapViews
import Derived.JoinedTies
import Derived.KernelRfl
namespace Go.Proofs.Ytmcdhendjlijhaa
/- THE CELL 'sum', in the pinned program and in every row, IS THE sha256 OF THE DUMP (.gsa) THAT YtmcdhendjlijhaaProg.lean LOADS. Nothing in Lean hashes anything: it is a label: what it is worth is what the hold of that sum in a sandbox is worth. -/
noncomputable def Try.pinned : Pinned := { name := "ytmcdhendjlijhaa", sum := "711bcf03a89951db0977d71226b21e8e7cb9fb808d2088837f9d4f184a1ced69", checked := Try.checked }
namespace Rows
def none {H : Type} : Left H := { results := [], args := [] }

/-- 'prompterlaw11.PlayJoins': WHATEVER THE INPUT: true; the input reads as it did. -/
def playJoinsSpec : ChangeSpec := { name := "playJoins", fn := fun _ => fun
  | [d1, d2, d3] => { results := [.lit (.bool true)], args := [d1, d2, d3] }
  | _ => none }
def playJoinsRow : OpenClaim := { program := "ytmcdhendjlijhaa", sum := "711bcf03a89951db0977d71226b21e8e7cb9fb808d2088837f9d4f184a1ced69", func := "prompter/prompterlaw11.PlayJoins", spec := "playJoins", inPlace := ["math.Float64bits"], unfollowed := true, recurses := true, apart := false }
def PlayJoinsSaid : Prop := playJoinsRow.holds Try.pinned (OpenSpec.ofChange playJoinsSpec)

/-- ITS FALSE NEIGHBOUR: 'it returns false'. Refute it at one input. -/
def playJoinsWrong : ChangeSpec := { name := "playJoins", fn := fun _ => fun
  | [d1, d2, d3] => { results := [.lit (.bool false)], args := [d1, d2, d3] }
  | _ => none }
def PlayJoinsWrongFalsely : Prop := playJoinsRow.holds Try.pinned (OpenSpec.ofChange playJoinsWrong)

/-- 'prompterlaw11.PlayRaises': WHATEVER THE INPUT: true; the input reads as it did. -/
def playRaisesSpec : ChangeSpec := { name := "playRaises", fn := fun _ => fun
  | [d1, d2, d3, d4] => { results := [.lit (.bool true)], args := [d1, d2, d3, d4] }
  | _ => none }
def playRaisesRow : OpenClaim := { program := "ytmcdhendjlijhaa", sum := "711bcf03a89951db0977d71226b21e8e7cb9fb808d2088837f9d4f184a1ced69", func := "prompter/prompterlaw11.PlayRaises", spec := "playRaises", inPlace := ["math.Float64bits"], unfollowed := true, recurses := true, apart := false }
def PlayRaisesSaid : Prop := playRaisesRow.holds Try.pinned (OpenSpec.ofChange playRaisesSpec)

/-- ITS FALSE NEIGHBOUR: 'it returns false'. Refute it at one input. -/
def playRaisesWrong : ChangeSpec := { name := "playRaises", fn := fun _ => fun
  | [d1, d2, d3, d4] => { results := [.lit (.bool false)], args := [d1, d2, d3, d4] }
  | _ => none }
def PlayRaisesWrongFalsely : Prop := playRaisesRow.holds Try.pinned (OpenSpec.ofChange playRaisesWrong)

/-- 'prompterlaw11.PlayNone': WHATEVER THE INPUT: true; the input reads as it did. -/
def playNoneSpec : ChangeSpec := { name := "playNone", fn := fun _ => fun
  | [d] => { results := [.lit (.bool true)], args := [d] }
  | _ => none }
def playNoneRow : OpenClaim := { program := "ytmcdhendjlijhaa", sum := "711bcf03a89951db0977d71226b21e8e7cb9fb808d2088837f9d4f184a1ced69", func := "prompter/prompterlaw11.PlayNone", spec := "playNone", inPlace := ["math.Float64bits"], unfollowed := true, recurses := true, loops := true, apart := false }
def PlayNoneSaid : Prop := playNoneRow.holds Try.pinned (OpenSpec.ofChange playNoneSpec)

/-- ITS FALSE NEIGHBOUR: 'it returns false'. Refute it at one input. -/
def playNoneWrong : ChangeSpec := { name := "playNone", fn := fun _ => fun
  | [d] => { results := [.lit (.bool false)], args := [d] }
  | _ => none }
def PlayNoneWrongFalsely : Prop := playNoneRow.holds Try.pinned (OpenSpec.ofChange playNoneWrong)

/-- 'prompterlaw11.PlayPlays': WHATEVER THE INPUT: true; the input reads as it did. -/
def playPlaysSpec : ChangeSpec := { name := "playPlays", fn := fun _ => fun
  | [d] => { results := [.lit (.bool true)], args := [d] }
  | _ => none }
def playPlaysRow : OpenClaim := { program := "ytmcdhendjlijhaa", sum := "711bcf03a89951db0977d71226b21e8e7cb9fb808d2088837f9d4f184a1ced69", func := "prompter/prompterlaw11.PlayPlays", spec := "playPlays", inPlace := ["math.Float64bits"], unfollowed := true, recurses := true, loops := true, apart := false }
def PlayPlaysSaid : Prop := playPlaysRow.holds Try.pinned (OpenSpec.ofChange playPlaysSpec)

/-- ITS FALSE NEIGHBOUR: 'it returns false'. Refute it at one input. -/
def playPlaysWrong : ChangeSpec := { name := "playPlays", fn := fun _ => fun
  | [d] => { results := [.lit (.bool false)], args := [d] }
  | _ => none }
def PlayPlaysWrongFalsely : Prop := playPlaysRow.holds Try.pinned (OpenSpec.ofChange playPlaysWrong)

/-- 'prompterlaw11.PlayErrors': WHATEVER THE INPUT: true; the input reads as it did. -/
def playErrorsSpec : ChangeSpec := { name := "playErrors", fn := fun _ => fun
  | [d1, d2, d3, d4, d5] => { results := [.lit (.bool true)], args := [d1, d2, d3, d4, d5] }
  | _ => none }
def playErrorsRow : OpenClaim := { program := "ytmcdhendjlijhaa", sum := "711bcf03a89951db0977d71226b21e8e7cb9fb808d2088837f9d4f184a1ced69", func := "prompter/prompterlaw11.PlayErrors", spec := "playErrors", inPlace := ["math.Float64bits"], unfollowed := true, recurses := true, loops := true, apart := false }
def PlayErrorsSaid : Prop := playErrorsRow.holds Try.pinned (OpenSpec.ofChange playErrorsSpec)

/-- ITS FALSE NEIGHBOUR: 'it returns false'. Refute it at one input. -/
def playErrorsWrong : ChangeSpec := { name := "playErrors", fn := fun _ => fun
  | [d1, d2, d3, d4, d5] => { results := [.lit (.bool false)], args := [d1, d2, d3, d4, d5] }
  | _ => none }
def PlayErrorsWrongFalsely : Prop := playErrorsRow.holds Try.pinned (OpenSpec.ofChange playErrorsWrong)

/-- 'prompterlaw11.PlayLoops': WHATEVER THE INPUT: true; the input reads as it did. -/
def playLoopsSpec : ChangeSpec := { name := "playLoops", fn := fun _ => fun
  | [d1, d2, d3] => { results := [.lit (.bool true)], args := [d1, d2, d3] }
  | _ => none }
def playLoopsRow : OpenClaim := { program := "ytmcdhendjlijhaa", sum := "711bcf03a89951db0977d71226b21e8e7cb9fb808d2088837f9d4f184a1ced69", func := "prompter/prompterlaw11.PlayLoops", spec := "playLoops", inPlace := ["math.Float64bits"], unfollowed := true, recurses := true, loops := true, apart := false }
def PlayLoopsSaid : Prop := playLoopsRow.holds Try.pinned (OpenSpec.ofChange playLoopsSpec)

/-- ITS FALSE NEIGHBOUR: 'it returns false'. Refute it at one input. -/
def playLoopsWrong : ChangeSpec := { name := "playLoops", fn := fun _ => fun
  | [d1, d2, d3] => { results := [.lit (.bool false)], args := [d1, d2, d3] }
  | _ => none }
def PlayLoopsWrongFalsely : Prop := playLoopsRow.holds Try.pinned (OpenSpec.ofChange playLoopsWrong)

/- THE SECOND FORM. 'bulk': how many values and letters a reading holds, each counted each time it is reached (what is shared counts as often as it is met; a slice's spare places count too). A statement '..UptoSaid' is the law's where the arguments, and the package variables that the reading takes, are together of bulk at most 1048576: NARROWER than '..Said'. Prove '..Said' where nothing that the law and all that it calls make is longer than what came in: it says more and counts as full. Else prove '..UptoSaid'. A law counts once. -/
mutual
def uptoBulk {H : Type} : DataW H → Nat
  | .lit (.string bytes) => bytes.length + 1
  | .lit _ => 1
  | .nil => 1
  | .ptr d => uptoBulk d + 1
  | .slice elems spare => uptoBulkAll elems + uptoBulkAll spare + 1
  | .agg parts => uptoBulkAll parts + 1
  | .iface _ d => uptoBulk d + 1
  | .map entries => uptoBulkEntries entries + 1
  | .held _ => 1
def uptoBulkAll {H : Type} : List (DataW H) → Nat
  | [] => 0
  | d :: r => uptoBulk d + uptoBulkAll r
def uptoBulkEntries {H : Type} : List (Lit × DataW H) → Nat
  | [] => 0
  | x :: r => uptoBulkEntry x + uptoBulkEntries r
def uptoBulkEntry {H : Type} : Lit × DataW H → Nat
  | (.string bytes, d) => bytes.length + uptoBulk d + 1
  | (_, d) => uptoBulk d + 1
 end
def uptoSmall : (H : Type) → List (DataW H) → Bool := fun _ ds => decide (uptoBulkAll ds ≤ 1048576)
def OpenSpec.upto (s : _root_.Go.ChangeSpec) : _root_.Go.OpenSpec := { _root_.Go.OpenSpec.ofChange s with cond := some uptoSmall }

/-- 'prompterlaw11.PlayJoins', WHERE WHAT IT READS IS OF BULK AT MOST 1048576: true; the input reads as it did. -/
def playJoinsUptoRow : OpenClaim := { program := "ytmcdhendjlijhaa", sum := "711bcf03a89951db0977d71226b21e8e7cb9fb808d2088837f9d4f184a1ced69", func := "prompter/prompterlaw11.PlayJoins", spec := "playJoins", inPlace := ["math.Float64bits"], unfollowed := true, recurses := true, apart := false, narrowed := true }
def PlayJoinsUptoSaid : Prop := playJoinsUptoRow.holds Try.pinned (OpenSpec.upto playJoinsSpec)

/-- 'prompterlaw11.PlayRaises', WHERE WHAT IT READS IS OF BULK AT MOST 1048576: true; the input reads as it did. -/
def playRaisesUptoRow : OpenClaim := { program := "ytmcdhendjlijhaa", sum := "711bcf03a89951db0977d71226b21e8e7cb9fb808d2088837f9d4f184a1ced69", func := "prompter/prompterlaw11.PlayRaises", spec := "playRaises", inPlace := ["math.Float64bits"], unfollowed := true, recurses := true, apart := false, narrowed := true }
def PlayRaisesUptoSaid : Prop := playRaisesUptoRow.holds Try.pinned (OpenSpec.upto playRaisesSpec)

/-- 'prompterlaw11.PlayNone', WHERE WHAT IT READS IS OF BULK AT MOST 1048576: true; the input reads as it did. -/
def playNoneUptoRow : OpenClaim := { program := "ytmcdhendjlijhaa", sum := "711bcf03a89951db0977d71226b21e8e7cb9fb808d2088837f9d4f184a1ced69", func := "prompter/prompterlaw11.PlayNone", spec := "playNone", inPlace := ["math.Float64bits"], unfollowed := true, recurses := true, loops := true, apart := false, narrowed := true }
def PlayNoneUptoSaid : Prop := playNoneUptoRow.holds Try.pinned (OpenSpec.upto playNoneSpec)

/-- 'prompterlaw11.PlayPlays', WHERE WHAT IT READS IS OF BULK AT MOST 1048576: true; the input reads as it did. -/
def playPlaysUptoRow : OpenClaim := { program := "ytmcdhendjlijhaa", sum := "711bcf03a89951db0977d71226b21e8e7cb9fb808d2088837f9d4f184a1ced69", func := "prompter/prompterlaw11.PlayPlays", spec := "playPlays", inPlace := ["math.Float64bits"], unfollowed := true, recurses := true, loops := true, apart := false, narrowed := true }
def PlayPlaysUptoSaid : Prop := playPlaysUptoRow.holds Try.pinned (OpenSpec.upto playPlaysSpec)

/-- 'prompterlaw11.PlayErrors', WHERE WHAT IT READS IS OF BULK AT MOST 1048576: true; the input reads as it did. -/
def playErrorsUptoRow : OpenClaim := { program := "ytmcdhendjlijhaa", sum := "711bcf03a89951db0977d71226b21e8e7cb9fb808d2088837f9d4f184a1ced69", func := "prompter/prompterlaw11.PlayErrors", spec := "playErrors", inPlace := ["math.Float64bits"], unfollowed := true, recurses := true, loops := true, apart := false, narrowed := true }
def PlayErrorsUptoSaid : Prop := playErrorsUptoRow.holds Try.pinned (OpenSpec.upto playErrorsSpec)

/-- 'prompterlaw11.PlayLoops', WHERE WHAT IT READS IS OF BULK AT MOST 1048576: true; the input reads as it did. -/
def playLoopsUptoRow : OpenClaim := { program := "ytmcdhendjlijhaa", sum := "711bcf03a89951db0977d71226b21e8e7cb9fb808d2088837f9d4f184a1ced69", func := "prompter/prompterlaw11.PlayLoops", spec := "playLoops", inPlace := ["math.Float64bits"], unfollowed := true, recurses := true, loops := true, apart := false, narrowed := true }
def PlayLoopsUptoSaid : Prop := playLoopsUptoRow.holds Try.pinned (OpenSpec.upto playLoopsSpec)

end Rows
end Go.Proofs.Ytmcdhendjlijhaa
