/-
  NARROWER THAN 'FOR EVERY INPUT', by the rows' own cells (each row's printed sentence says how): ValueSame: loops · ValueChecks: loops · ValueBuilds: loops · ValueNone: loops · CourierParts: loops · CourierApart: loops · CourierErrors: loops · CourierAny: loops · CourierBack: loops.
  DERIVED. THE GIVEN ROWS OF THIS SEAT. 9 by the template 'for every input the law returns true; each argument reads behind the call as it read before'; 0 by the template 'total and deterministic' (their statements: YtidelhpljjjjmaaTotals.lean).
  GIVEN WITH THE SEED: the statements are not yours to turn. If you find one false, say at which input.
  Laid BY PROGRAM, IN A SANDBOX (cutbox-rows.mjs): the forced cells as the released guide's own fill.sh prints them over the translation e90d8f0d2eab3e47… (all of the seat's roots in one cut). By AI agents, Wed Nov 11 2026. No macro, syntax, notation, axiom, sorry.
-/
import Derived.Test.YtidelhpljjjjmaaChecked
import GoSem.Claim
import GoSem.ClaimJoined
import GoSem.ClaimMapViews
import Derived.JoinedTies
import Derived.KernelRfl
namespace Go.Proofs.Ytidelhpljjjjmaa
/- THE CELL 'sum', in the pinned program and in every row, IS THE sha256 OF THE DUMP (.gsa) THAT YtidelhpljjjjmaaProg.lean LOADS. Nothing in Lean hashes anything: it is a label: what it is worth is what the hold of that sum in a sandbox is worth. -/
noncomputable def Try.pinned : Pinned := { name := "ytidelhpljjjjmaa", sum := "e90d8f0d2eab3e471d8fa6016257c7667b62d97bc63376fb54f4457bd5b42908", checked := Try.checked }
namespace Rows
def none {H : Type} : Left H := { results := [], args := [] }

/-- 'prompterlaw08.ValueSame': WHATEVER THE INPUT: true; the input reads as it did. -/
def valueSameSpec : ChangeSpec := { name := "valueSame", fn := fun _ => fun
  | [d1, d2, d3, d4, d5, d6, d7] => { results := [.lit (.bool true)], args := [d1, d2, d3, d4, d5, d6, d7] }
  | _ => none }
def valueSameRow : OpenClaim := { program := "ytidelhpljjjjmaa", sum := "e90d8f0d2eab3e471d8fa6016257c7667b62d97bc63376fb54f4457bd5b42908", func := "prompter/prompterlaw08.ValueSame", spec := "valueSame", inPlace := ["math.Float64bits", "math.Float64frombits"], unfollowed := true, recurses := true, loops := true, apart := false }
def ValueSameSaid : Prop := valueSameRow.holds Try.pinned (OpenSpec.ofChange valueSameSpec)

/-- ITS FALSE NEIGHBOUR: 'it returns false'. Refute it at one input. -/
def valueSameWrong : ChangeSpec := { name := "valueSame", fn := fun _ => fun
  | [d1, d2, d3, d4, d5, d6, d7] => { results := [.lit (.bool false)], args := [d1, d2, d3, d4, d5, d6, d7] }
  | _ => none }
def ValueSameWrongFalsely : Prop := valueSameRow.holds Try.pinned (OpenSpec.ofChange valueSameWrong)

/-- 'prompterlaw08.ValueChecks': WHATEVER THE INPUT: true; the input reads as it did. -/
def valueChecksSpec : ChangeSpec := { name := "valueChecks", fn := fun _ => fun
  | [d1, d2, d3, d4, d5, d6, d7, d8] => { results := [.lit (.bool true)], args := [d1, d2, d3, d4, d5, d6, d7, d8] }
  | _ => none }
def valueChecksRow : OpenClaim := { program := "ytidelhpljjjjmaa", sum := "e90d8f0d2eab3e471d8fa6016257c7667b62d97bc63376fb54f4457bd5b42908", func := "prompter/prompterlaw08.ValueChecks", spec := "valueChecks", inPlace := ["math.Float64bits", "math.Float64frombits"], unfollowed := true, recurses := true, loops := true, apart := false }
def ValueChecksSaid : Prop := valueChecksRow.holds Try.pinned (OpenSpec.ofChange valueChecksSpec)

/-- ITS FALSE NEIGHBOUR: 'it returns false'. Refute it at one input. -/
def valueChecksWrong : ChangeSpec := { name := "valueChecks", fn := fun _ => fun
  | [d1, d2, d3, d4, d5, d6, d7, d8] => { results := [.lit (.bool false)], args := [d1, d2, d3, d4, d5, d6, d7, d8] }
  | _ => none }
def ValueChecksWrongFalsely : Prop := valueChecksRow.holds Try.pinned (OpenSpec.ofChange valueChecksWrong)

/-- 'prompterlaw08.ValueBuilds': WHATEVER THE INPUT: true; the input reads as it did. -/
def valueBuildsSpec : ChangeSpec := { name := "valueBuilds", fn := fun _ => fun
  | [d1, d2, d3] => { results := [.lit (.bool true)], args := [d1, d2, d3] }
  | _ => none }
def valueBuildsRow : OpenClaim := { program := "ytidelhpljjjjmaa", sum := "e90d8f0d2eab3e471d8fa6016257c7667b62d97bc63376fb54f4457bd5b42908", func := "prompter/prompterlaw08.ValueBuilds", spec := "valueBuilds", inPlace := ["math.Float64bits"], unfollowed := true, recurses := true, loops := true, apart := false }
def ValueBuildsSaid : Prop := valueBuildsRow.holds Try.pinned (OpenSpec.ofChange valueBuildsSpec)

/-- ITS FALSE NEIGHBOUR: 'it returns false'. Refute it at one input. -/
def valueBuildsWrong : ChangeSpec := { name := "valueBuilds", fn := fun _ => fun
  | [d1, d2, d3] => { results := [.lit (.bool false)], args := [d1, d2, d3] }
  | _ => none }
def ValueBuildsWrongFalsely : Prop := valueBuildsRow.holds Try.pinned (OpenSpec.ofChange valueBuildsWrong)

/-- 'prompterlaw08.ValueNone': WHATEVER THE INPUT: true; the input reads as it did. -/
def valueNoneSpec : ChangeSpec := { name := "valueNone", fn := fun _ => fun
  | [d1, d2, d3] => { results := [.lit (.bool true)], args := [d1, d2, d3] }
  | _ => none }
def valueNoneRow : OpenClaim := { program := "ytidelhpljjjjmaa", sum := "e90d8f0d2eab3e471d8fa6016257c7667b62d97bc63376fb54f4457bd5b42908", func := "prompter/prompterlaw08.ValueNone", spec := "valueNone", inPlace := ["math.Float64bits"], unfollowed := true, recurses := true, loops := true, apart := false }
def ValueNoneSaid : Prop := valueNoneRow.holds Try.pinned (OpenSpec.ofChange valueNoneSpec)

/-- ITS FALSE NEIGHBOUR: 'it returns false'. Refute it at one input. -/
def valueNoneWrong : ChangeSpec := { name := "valueNone", fn := fun _ => fun
  | [d1, d2, d3] => { results := [.lit (.bool false)], args := [d1, d2, d3] }
  | _ => none }
def ValueNoneWrongFalsely : Prop := valueNoneRow.holds Try.pinned (OpenSpec.ofChange valueNoneWrong)

/-- 'prompterlaw09.CourierParts': WHATEVER THE INPUT: true; the input reads as it did. -/
def courierPartsSpec : ChangeSpec := { name := "courierParts", fn := fun _ => fun
  | [d1, d2, d3, d4] => { results := [.lit (.bool true)], args := [d1, d2, d3, d4] }
  | _ => none }
def courierPartsRow : OpenClaim := { program := "ytidelhpljjjjmaa", sum := "e90d8f0d2eab3e471d8fa6016257c7667b62d97bc63376fb54f4457bd5b42908", func := "prompter/prompterlaw09.CourierParts", spec := "courierParts", inPlace := ["math.Float64bits"], unfollowed := true, recurses := true, loops := true, apart := false }
def CourierPartsSaid : Prop := courierPartsRow.holds Try.pinned (OpenSpec.ofChange courierPartsSpec)

/-- ITS FALSE NEIGHBOUR: 'it returns false'. Refute it at one input. -/
def courierPartsWrong : ChangeSpec := { name := "courierParts", fn := fun _ => fun
  | [d1, d2, d3, d4] => { results := [.lit (.bool false)], args := [d1, d2, d3, d4] }
  | _ => none }
def CourierPartsWrongFalsely : Prop := courierPartsRow.holds Try.pinned (OpenSpec.ofChange courierPartsWrong)

/-- 'prompterlaw09.CourierApart': WHATEVER THE INPUT: true; the input reads as it did. -/
def courierApartSpec : ChangeSpec := { name := "courierApart", fn := fun _ => fun
  | [d1, d2, d3] => { results := [.lit (.bool true)], args := [d1, d2, d3] }
  | _ => none }
def courierApartRow : OpenClaim := { program := "ytidelhpljjjjmaa", sum := "e90d8f0d2eab3e471d8fa6016257c7667b62d97bc63376fb54f4457bd5b42908", func := "prompter/prompterlaw09.CourierApart", spec := "courierApart", inPlace := ["math.Float64bits"], unfollowed := true, recurses := true, loops := true, apart := false }
def CourierApartSaid : Prop := courierApartRow.holds Try.pinned (OpenSpec.ofChange courierApartSpec)

/-- ITS FALSE NEIGHBOUR: 'it returns false'. Refute it at one input. -/
def courierApartWrong : ChangeSpec := { name := "courierApart", fn := fun _ => fun
  | [d1, d2, d3] => { results := [.lit (.bool false)], args := [d1, d2, d3] }
  | _ => none }
def CourierApartWrongFalsely : Prop := courierApartRow.holds Try.pinned (OpenSpec.ofChange courierApartWrong)

/-- 'prompterlaw09.CourierErrors': WHATEVER THE INPUT: true; the input reads as it did. -/
def courierErrorsSpec : ChangeSpec := { name := "courierErrors", fn := fun _ => fun
  | [d1, d2, d3, d4, d5, d6] => { results := [.lit (.bool true)], args := [d1, d2, d3, d4, d5, d6] }
  | _ => none }
def courierErrorsRow : OpenClaim := { program := "ytidelhpljjjjmaa", sum := "e90d8f0d2eab3e471d8fa6016257c7667b62d97bc63376fb54f4457bd5b42908", func := "prompter/prompterlaw09.CourierErrors", spec := "courierErrors", inPlace := ["math.Float64bits", "math.Float64frombits"], unfollowed := true, recurses := true, loops := true, apart := false }
def CourierErrorsSaid : Prop := courierErrorsRow.holds Try.pinned (OpenSpec.ofChange courierErrorsSpec)

/-- ITS FALSE NEIGHBOUR: 'it returns false'. Refute it at one input. -/
def courierErrorsWrong : ChangeSpec := { name := "courierErrors", fn := fun _ => fun
  | [d1, d2, d3, d4, d5, d6] => { results := [.lit (.bool false)], args := [d1, d2, d3, d4, d5, d6] }
  | _ => none }
def CourierErrorsWrongFalsely : Prop := courierErrorsRow.holds Try.pinned (OpenSpec.ofChange courierErrorsWrong)

/-- 'prompterlaw09.CourierAny': WHATEVER THE INPUT: true; the input reads as it did. -/
def courierAnySpec : ChangeSpec := { name := "courierAny", fn := fun _ => fun
  | [d1, d2, d3, d4, d5] => { results := [.lit (.bool true)], args := [d1, d2, d3, d4, d5] }
  | _ => none }
def courierAnyRow : OpenClaim := { program := "ytidelhpljjjjmaa", sum := "e90d8f0d2eab3e471d8fa6016257c7667b62d97bc63376fb54f4457bd5b42908", func := "prompter/prompterlaw09.CourierAny", spec := "courierAny", inPlace := ["math.Float64bits", "math.Float64frombits"], unfollowed := true, recurses := true, loops := true, apart := false }
def CourierAnySaid : Prop := courierAnyRow.holds Try.pinned (OpenSpec.ofChange courierAnySpec)

/-- ITS FALSE NEIGHBOUR: 'it returns false'. Refute it at one input. -/
def courierAnyWrong : ChangeSpec := { name := "courierAny", fn := fun _ => fun
  | [d1, d2, d3, d4, d5] => { results := [.lit (.bool false)], args := [d1, d2, d3, d4, d5] }
  | _ => none }
def CourierAnyWrongFalsely : Prop := courierAnyRow.holds Try.pinned (OpenSpec.ofChange courierAnyWrong)

/-- 'prompterlaw09.CourierBack': WHATEVER THE INPUT: true; the input reads as it did. -/
def courierBackSpec : ChangeSpec := { name := "courierBack", fn := fun _ => fun
  | [d1, d2, d3, d4, d5] => { results := [.lit (.bool true)], args := [d1, d2, d3, d4, d5] }
  | _ => none }
def courierBackRow : OpenClaim := { program := "ytidelhpljjjjmaa", sum := "e90d8f0d2eab3e471d8fa6016257c7667b62d97bc63376fb54f4457bd5b42908", func := "prompter/prompterlaw09.CourierBack", spec := "courierBack", inPlace := ["math.Float64bits", "math.Float64frombits"], unfollowed := true, recurses := true, loops := true, apart := false }
def CourierBackSaid : Prop := courierBackRow.holds Try.pinned (OpenSpec.ofChange courierBackSpec)

/-- ITS FALSE NEIGHBOUR: 'it returns false'. Refute it at one input. -/
def courierBackWrong : ChangeSpec := { name := "courierBack", fn := fun _ => fun
  | [d1, d2, d3, d4, d5] => { results := [.lit (.bool false)], args := [d1, d2, d3, d4, d5] }
  | _ => none }
def CourierBackWrongFalsely : Prop := courierBackRow.holds Try.pinned (OpenSpec.ofChange courierBackWrong)

/- THE SECOND FORM. 'bulk': how many values and letters a reading holds, each counted each time it is reached (what is shared counts as often as it is met; a slice's spare places count too). A statement '..UptoSaid' is the law's where the arguments, and the package variables that the reading takes, are together of bulk at most 1048576: NARROWER than '..Said'. Prove '..Said' where nothing that the law and all that it calls make is longer than what came in: it says more and counts as full. Else prove '..UptoSaid'. A law counts once. -/
mutual
def uptoBulk {H : Type} : DataW H → Nat
  | .lit (.string bytes) => bytes.length + 1
  | .lit _ => 1
  | .nil => 1
  | .ptr d => uptoBulk d + 1
  | .slice elems spare => uptoBulkAll elems + uptoBulkAll spare + 1
  | .agg parts => uptoBulkAll parts + 1
  | .iface _ d => uptoBulk d + 1
  | .map entries => uptoBulkEntries entries + 1
  | .held _ => 1
def uptoBulkAll {H : Type} : List (DataW H) → Nat
  | [] => 0
  | d :: r => uptoBulk d + uptoBulkAll r
def uptoBulkEntries {H : Type} : List (Lit × DataW H) → Nat
  | [] => 0
  | x :: r => uptoBulkEntry x + uptoBulkEntries r
def uptoBulkEntry {H : Type} : Lit × DataW H → Nat
  | (.string bytes, d) => bytes.length + uptoBulk d + 1
  | (_, d) => uptoBulk d + 1
 end
def uptoSmall : (H : Type) → List (DataW H) → Bool := fun _ ds => decide (uptoBulkAll ds ≤ 1048576)
def OpenSpec.upto (s : _root_.Go.ChangeSpec) : _root_.Go.OpenSpec := { _root_.Go.OpenSpec.ofChange s with cond := some uptoSmall }

/-- 'prompterlaw08.ValueSame', WHERE WHAT IT READS IS OF BULK AT MOST 1048576: true; the input reads as it did. -/
def valueSameUptoRow : OpenClaim := { program := "ytidelhpljjjjmaa", sum := "e90d8f0d2eab3e471d8fa6016257c7667b62d97bc63376fb54f4457bd5b42908", func := "prompter/prompterlaw08.ValueSame", spec := "valueSame", inPlace := ["math.Float64bits", "math.Float64frombits"], unfollowed := true, recurses := true, loops := true, apart := false, narrowed := true }
def ValueSameUptoSaid : Prop := valueSameUptoRow.holds Try.pinned (OpenSpec.upto valueSameSpec)

/-- 'prompterlaw08.ValueChecks', WHERE WHAT IT READS IS OF BULK AT MOST 1048576: true; the input reads as it did. -/
def valueChecksUptoRow : OpenClaim := { program := "ytidelhpljjjjmaa", sum := "e90d8f0d2eab3e471d8fa6016257c7667b62d97bc63376fb54f4457bd5b42908", func := "prompter/prompterlaw08.ValueChecks", spec := "valueChecks", inPlace := ["math.Float64bits", "math.Float64frombits"], unfollowed := true, recurses := true, loops := true, apart := false, narrowed := true }
def ValueChecksUptoSaid : Prop := valueChecksUptoRow.holds Try.pinned (OpenSpec.upto valueChecksSpec)

/-- 'prompterlaw08.ValueBuilds', WHERE WHAT IT READS IS OF BULK AT MOST 1048576: true; the input reads as it did. -/
def valueBuildsUptoRow : OpenClaim := { program := "ytidelhpljjjjmaa", sum := "e90d8f0d2eab3e471d8fa6016257c7667b62d97bc63376fb54f4457bd5b42908", func := "prompter/prompterlaw08.ValueBuilds", spec := "valueBuilds", inPlace := ["math.Float64bits"], unfollowed := true, recurses := true, loops := true, apart := false, narrowed := true }
def ValueBuildsUptoSaid : Prop := valueBuildsUptoRow.holds Try.pinned (OpenSpec.upto valueBuildsSpec)

/-- 'prompterlaw08.ValueNone', WHERE WHAT IT READS IS OF BULK AT MOST 1048576: true; the input reads as it did. -/
def valueNoneUptoRow : OpenClaim := { program := "ytidelhpljjjjmaa", sum := "e90d8f0d2eab3e471d8fa6016257c7667b62d97bc63376fb54f4457bd5b42908", func := "prompter/prompterlaw08.ValueNone", spec := "valueNone", inPlace := ["math.Float64bits"], unfollowed := true, recurses := true, loops := true, apart := false, narrowed := true }
def ValueNoneUptoSaid : Prop := valueNoneUptoRow.holds Try.pinned (OpenSpec.upto valueNoneSpec)

/-- 'prompterlaw09.CourierParts', WHERE WHAT IT READS IS OF BULK AT MOST 1048576: true; the input reads as it did. -/
def courierPartsUptoRow : OpenClaim := { program := "ytidelhpljjjjmaa", sum := "e90d8f0d2eab3e471d8fa6016257c7667b62d97bc63376fb54f4457bd5b42908", func := "prompter/prompterlaw09.CourierParts", spec := "courierParts", inPlace := ["math.Float64bits"], unfollowed := true, recurses := true, loops := true, apart := false, narrowed := true }
def CourierPartsUptoSaid : Prop := courierPartsUptoRow.holds Try.pinned (OpenSpec.upto courierPartsSpec)

/-- 'prompterlaw09.CourierApart', WHERE WHAT IT READS IS OF BULK AT MOST 1048576: true; the input reads as it did. -/
def courierApartUptoRow : OpenClaim := { program := "ytidelhpljjjjmaa", sum := "e90d8f0d2eab3e471d8fa6016257c7667b62d97bc63376fb54f4457bd5b42908", func := "prompter/prompterlaw09.CourierApart", spec := "courierApart", inPlace := ["math.Float64bits"], unfollowed := true, recurses := true, loops := true, apart := false, narrowed := true }
def CourierApartUptoSaid : Prop := courierApartUptoRow.holds Try.pinned (OpenSpec.upto courierApartSpec)

/-- 'prompterlaw09.CourierErrors', WHERE WHAT IT READS IS OF BULK AT MOST 1048576: true; the input reads as it did. -/
def courierErrorsUptoRow : OpenClaim := { program := "ytidelhpljjjjmaa", sum := "e90d8f0d2eab3e471d8fa6016257c7667b62d97bc63376fb54f4457bd5b42908", func := "prompter/prompterlaw09.CourierErrors", spec := "courierErrors", inPlace := ["math.Float64bits", "math.Float64frombits"], unfollowed := true, recurses := true, loops := true, apart := false, narrowed := true }
def CourierErrorsUptoSaid : Prop := courierErrorsUptoRow.holds Try.pinned (OpenSpec.upto courierErrorsSpec)

/-- 'prompterlaw09.CourierAny', WHERE WHAT IT READS IS OF BULK AT MOST 1048576: true; the input reads as it did. -/
def courierAnyUptoRow : OpenClaim := { program := "ytidelhpljjjjmaa", sum := "e90d8f0d2eab3e471d8fa6016257c7667b62d97bc63376fb54f4457bd5b42908", func := "prompter/prompterlaw09.CourierAny", spec := "courierAny", inPlace := ["math.Float64bits", "math.Float64frombits"], unfollowed := true, recurses := true, loops := true, apart := false, narrowed := true }
def CourierAnyUptoSaid : Prop := courierAnyUptoRow.holds Try.pinned (OpenSpec.upto courierAnySpec)

/-- 'prompterlaw09.CourierBack', WHERE WHAT IT READS IS OF BULK AT MOST 1048576: true; the input reads as it did. -/
def courierBackUptoRow : OpenClaim := { program := "ytidelhpljjjjmaa", sum := "e90d8f0d2eab3e471d8fa6016257c7667b62d97bc63376fb54f4457bd5b42908", func := "prompter/prompterlaw09.CourierBack", spec := "courierBack", inPlace := ["math.Float64bits", "math.Float64frombits"], unfollowed := true, recurses := true, loops := true, apart := false, narrowed := true }
def CourierBackUptoSaid : Prop := courierBackUptoRow.holds Try.pinned (OpenSpec.upto courierBackSpec)

end Rows
end Go.Proofs.Ytidelhpljjjjmaa
