/-
  No cell of these rows narrows 'for every input' (looked for: loops, veiled, ifaces, maps, wideKeys, modest, calm, conditions, laid).
  DERIVED. THE GIVEN ROWS OF THIS SEAT. 5 by the template 'for every input the law returns true; each argument reads behind the call as it read before'; 0 by the template 'total and deterministic' (their statements: YtoghanbjiikheaaTotals.lean).
  GIVEN WITH THE SEED: the statements are not yours to turn. If you find one false, say at which input.
  Laid BY PROGRAM, IN A SANDBOX (cutbox-rows.mjs): the forced cells as the released guide's own fill.sh prints them over the translation fb10e666e41339c2… (all of the seat's roots in one cut). By AI agents, Wed Nov 11 2026. No macro, syntax, notation, axiom, sorry.
-/
import Derived.Test.YtoghanbjiikheaaChecked
import GoSem.Claim
import GoSem.ClaimJoined
import GoSem.ClaimMapViews
import Derived.JoinedTies
import Derived.KernelRfl
namespace Go.Proofs.Ytoghanbjiikheaa
/- THE CELL 'sum', in the pinned program and in every row, IS THE sha256 OF THE DUMP (.gsa) THAT YtoghanbjiikheaaProg.lean LOADS. Nothing in Lean hashes anything: it is a label: what it is worth is what the hold of that sum in a sandbox is worth. -/
noncomputable def Try.pinned : Pinned := { name := "ytoghanbjiikheaa", sum := "fb10e666e41339c2c40f42d3c8741b14fe56729e8882beb2f1b5d76500796da4", checked := Try.checked }
namespace Rows
def none {H : Type} : Left H := { results := [], args := [] }

/-- 'prompterlaw14.TroupeHalves': WHATEVER THE INPUT: true; the input reads as it did. -/
def troupeHalvesSpec : ChangeSpec := { name := "troupeHalves", fn := fun _ => fun
  | [d1, d2, d3] => { results := [.lit (.bool true)], args := [d1, d2, d3] }
  | _ => none }
def troupeHalvesRow : OpenClaim := { program := "ytoghanbjiikheaa", sum := "fb10e666e41339c2c40f42d3c8741b14fe56729e8882beb2f1b5d76500796da4", func := "prompter/prompterlaw14.TroupeHalves", spec := "troupeHalves", apart := false }
def TroupeHalvesSaid : Prop := troupeHalvesRow.holds Try.pinned (OpenSpec.ofChange troupeHalvesSpec)

/-- ITS FALSE NEIGHBOUR: 'it returns false'. Refute it at one input. -/
def troupeHalvesWrong : ChangeSpec := { name := "troupeHalves", fn := fun _ => fun
  | [d1, d2, d3] => { results := [.lit (.bool false)], args := [d1, d2, d3] }
  | _ => none }
def TroupeHalvesWrongFalsely : Prop := troupeHalvesRow.holds Try.pinned (OpenSpec.ofChange troupeHalvesWrong)

/-- 'prompterlaw14.TroupeChecks': WHATEVER THE INPUT: true; the input reads as it did. -/
def troupeChecksSpec : ChangeSpec := { name := "troupeChecks", fn := fun _ => fun
  | [d1, d2, d3] => { results := [.lit (.bool true)], args := [d1, d2, d3] }
  | _ => none }
def troupeChecksRow : OpenClaim := { program := "ytoghanbjiikheaa", sum := "fb10e666e41339c2c40f42d3c8741b14fe56729e8882beb2f1b5d76500796da4", func := "prompter/prompterlaw14.TroupeChecks", spec := "troupeChecks", apart := false }
def TroupeChecksSaid : Prop := troupeChecksRow.holds Try.pinned (OpenSpec.ofChange troupeChecksSpec)

/-- ITS FALSE NEIGHBOUR: 'it returns false'. Refute it at one input. -/
def troupeChecksWrong : ChangeSpec := { name := "troupeChecks", fn := fun _ => fun
  | [d1, d2, d3] => { results := [.lit (.bool false)], args := [d1, d2, d3] }
  | _ => none }
def TroupeChecksWrongFalsely : Prop := troupeChecksRow.holds Try.pinned (OpenSpec.ofChange troupeChecksWrong)

/-- 'prompterlaw14.TroupeChains': WHATEVER THE INPUT: true; the input reads as it did. -/
def troupeChainsSpec : ChangeSpec := { name := "troupeChains", fn := fun _ => fun
  | [d1, d2] => { results := [.lit (.bool true)], args := [d1, d2] }
  | _ => none }
def troupeChainsRow : OpenClaim := { program := "ytoghanbjiikheaa", sum := "fb10e666e41339c2c40f42d3c8741b14fe56729e8882beb2f1b5d76500796da4", func := "prompter/prompterlaw14.TroupeChains", spec := "troupeChains", unfollowed := true, recurses := true, apart := false }
def TroupeChainsSaid : Prop := troupeChainsRow.holds Try.pinned (OpenSpec.ofChange troupeChainsSpec)

/-- ITS FALSE NEIGHBOUR: 'it returns false'. Refute it at one input. -/
def troupeChainsWrong : ChangeSpec := { name := "troupeChains", fn := fun _ => fun
  | [d1, d2] => { results := [.lit (.bool false)], args := [d1, d2] }
  | _ => none }
def TroupeChainsWrongFalsely : Prop := troupeChainsRow.holds Try.pinned (OpenSpec.ofChange troupeChainsWrong)

/-- 'prompterlaw14.TroupeViews': WHATEVER THE INPUT: true; the input reads as it did. -/
def troupeViewsSpec : ChangeSpec := { name := "troupeViews", fn := fun _ => fun
  | [d1, d2, d3, d4, d5] => { results := [.lit (.bool true)], args := [d1, d2, d3, d4, d5] }
  | _ => none }
def troupeViewsRow : OpenClaim := { program := "ytoghanbjiikheaa", sum := "fb10e666e41339c2c40f42d3c8741b14fe56729e8882beb2f1b5d76500796da4", func := "prompter/prompterlaw14.TroupeViews", spec := "troupeViews", unfollowed := true, recurses := true, apart := false }
def TroupeViewsSaid : Prop := troupeViewsRow.holds Try.pinned (OpenSpec.ofChange troupeViewsSpec)

/-- ITS FALSE NEIGHBOUR: 'it returns false'. Refute it at one input. -/
def troupeViewsWrong : ChangeSpec := { name := "troupeViews", fn := fun _ => fun
  | [d1, d2, d3, d4, d5] => { results := [.lit (.bool false)], args := [d1, d2, d3, d4, d5] }
  | _ => none }
def TroupeViewsWrongFalsely : Prop := troupeViewsRow.holds Try.pinned (OpenSpec.ofChange troupeViewsWrong)

/-- 'prompterlaw14.TroupeTurns': WHATEVER THE INPUT: true; the input reads as it did. -/
def troupeTurnsSpec : ChangeSpec := { name := "troupeTurns", fn := fun _ => fun
  | [d1, d2] => { results := [.lit (.bool true)], args := [d1, d2] }
  | _ => none }
def troupeTurnsRow : OpenClaim := { program := "ytoghanbjiikheaa", sum := "fb10e666e41339c2c40f42d3c8741b14fe56729e8882beb2f1b5d76500796da4", func := "prompter/prompterlaw14.TroupeTurns", spec := "troupeTurns", unfollowed := true, recurses := true, apart := false }
def TroupeTurnsSaid : Prop := troupeTurnsRow.holds Try.pinned (OpenSpec.ofChange troupeTurnsSpec)

/-- ITS FALSE NEIGHBOUR: 'it returns false'. Refute it at one input. -/
def troupeTurnsWrong : ChangeSpec := { name := "troupeTurns", fn := fun _ => fun
  | [d1, d2] => { results := [.lit (.bool false)], args := [d1, d2] }
  | _ => none }
def TroupeTurnsWrongFalsely : Prop := troupeTurnsRow.holds Try.pinned (OpenSpec.ofChange troupeTurnsWrong)

/- THE SECOND FORM. 'bulk': how many values and letters a reading holds, each counted each time it is reached (what is shared counts as often as it is met; a slice's spare places count too). A statement '..UptoSaid' is the law's where the arguments, and the package variables that the reading takes, are together of bulk at most 1048576: NARROWER than '..Said'. Prove '..Said' where nothing that the law and all that it calls make is longer than what came in: it says more and counts as full. Else prove '..UptoSaid'. A law counts once. -/
mutual
def uptoBulk {H : Type} : DataW H → Nat
  | .lit (.string bytes) => bytes.length + 1
  | .lit _ => 1
  | .nil => 1
  | .ptr d => uptoBulk d + 1
  | .slice elems spare => uptoBulkAll elems + uptoBulkAll spare + 1
  | .agg parts => uptoBulkAll parts + 1
  | .iface _ d => uptoBulk d + 1
  | .map entries => uptoBulkEntries entries + 1
  | .held _ => 1
def uptoBulkAll {H : Type} : List (DataW H) → Nat
  | [] => 0
  | d :: r => uptoBulk d + uptoBulkAll r
def uptoBulkEntries {H : Type} : List (Lit × DataW H) → Nat
  | [] => 0
  | x :: r => uptoBulkEntry x + uptoBulkEntries r
def uptoBulkEntry {H : Type} : Lit × DataW H → Nat
  | (.string bytes, d) => bytes.length + uptoBulk d + 1
  | (_, d) => uptoBulk d + 1
 end
def uptoSmall : (H : Type) → List (DataW H) → Bool := fun _ ds => decide (uptoBulkAll ds ≤ 1048576)
def OpenSpec.upto (s : _root_.Go.ChangeSpec) : _root_.Go.OpenSpec := { _root_.Go.OpenSpec.ofChange s with cond := some uptoSmall }

/-- 'prompterlaw14.TroupeHalves', WHERE WHAT IT READS IS OF BULK AT MOST 1048576: true; the input reads as it did. -/
def troupeHalvesUptoRow : OpenClaim := { program := "ytoghanbjiikheaa", sum := "fb10e666e41339c2c40f42d3c8741b14fe56729e8882beb2f1b5d76500796da4", func := "prompter/prompterlaw14.TroupeHalves", spec := "troupeHalves", apart := false, narrowed := true }
def TroupeHalvesUptoSaid : Prop := troupeHalvesUptoRow.holds Try.pinned (OpenSpec.upto troupeHalvesSpec)

/-- 'prompterlaw14.TroupeChecks', WHERE WHAT IT READS IS OF BULK AT MOST 1048576: true; the input reads as it did. -/
def troupeChecksUptoRow : OpenClaim := { program := "ytoghanbjiikheaa", sum := "fb10e666e41339c2c40f42d3c8741b14fe56729e8882beb2f1b5d76500796da4", func := "prompter/prompterlaw14.TroupeChecks", spec := "troupeChecks", apart := false, narrowed := true }
def TroupeChecksUptoSaid : Prop := troupeChecksUptoRow.holds Try.pinned (OpenSpec.upto troupeChecksSpec)

/-- 'prompterlaw14.TroupeChains', WHERE WHAT IT READS IS OF BULK AT MOST 1048576: true; the input reads as it did. -/
def troupeChainsUptoRow : OpenClaim := { program := "ytoghanbjiikheaa", sum := "fb10e666e41339c2c40f42d3c8741b14fe56729e8882beb2f1b5d76500796da4", func := "prompter/prompterlaw14.TroupeChains", spec := "troupeChains", unfollowed := true, recurses := true, apart := false, narrowed := true }
def TroupeChainsUptoSaid : Prop := troupeChainsUptoRow.holds Try.pinned (OpenSpec.upto troupeChainsSpec)

/-- 'prompterlaw14.TroupeViews', WHERE WHAT IT READS IS OF BULK AT MOST 1048576: true; the input reads as it did. -/
def troupeViewsUptoRow : OpenClaim := { program := "ytoghanbjiikheaa", sum := "fb10e666e41339c2c40f42d3c8741b14fe56729e8882beb2f1b5d76500796da4", func := "prompter/prompterlaw14.TroupeViews", spec := "troupeViews", unfollowed := true, recurses := true, apart := false, narrowed := true }
def TroupeViewsUptoSaid : Prop := troupeViewsUptoRow.holds Try.pinned (OpenSpec.upto troupeViewsSpec)

/-- 'prompterlaw14.TroupeTurns', WHERE WHAT IT READS IS OF BULK AT MOST 1048576: true; the input reads as it did. -/
def troupeTurnsUptoRow : OpenClaim := { program := "ytoghanbjiikheaa", sum := "fb10e666e41339c2c40f42d3c8741b14fe56729e8882beb2f1b5d76500796da4", func := "prompter/prompterlaw14.TroupeTurns", spec := "troupeTurns", unfollowed := true, recurses := true, apart := false, narrowed := true }
def TroupeTurnsUptoSaid : Prop := troupeTurnsUptoRow.holds Try.pinned (OpenSpec.upto troupeTurnsSpec)

end Rows
end Go.Proofs.Ytoghanbjiikheaa
