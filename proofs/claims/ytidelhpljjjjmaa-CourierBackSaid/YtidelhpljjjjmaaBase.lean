/- The small types' numbers. No condition. -/
import Derived.Test.YtidelhpljjjjmaaRows
import Derived.Test.YtidelhpljjjjmaaD1
import Derived.Test.YtidelhpljjjjmaaA1
import Derived.ProofKit
import Derived.OpenShut
namespace Go.Proofs.Ytidelhpljjjjmaa
open Go.ChangeShapes Go.WideShapes Go.ChangeAt Go.RowKit Go.Pv

theorem own : ownKnob Try.prog.godebug = none := by kernel_rfl
theorem laidOut : laidOutB Try.prog = true := by kernel_rfl
theorem plainS : plainB Try.prog [24, 22, 5] = true := by kernel_rfl
theorem wf_u64 {x : Int} (h : (Lit.int .u64 x).wf = true) : 0 ≤ x ∧ x ≤ 18446744073709551615 := by simp [Lit.wf, IntKind.min, IntKind.max, IntKind.signed, IntKind.bits] at h; omega
theorem cells2 : Try.prog.cellsOf 2 = 1 := by kernel_rfl
theorem cells5 : Try.prog.cellsOf 5 = 1 := by kernel_rfl
theorem ndT : (∃ fs, Try.prog.underlying 24 = some (.struct fs) ∧ fs.toList.map (·.type) = [5, 5, 22]) ∧ Try.prog.underlying 22 = some (.slice 24) ∧ Try.prog.underlying 5 = some (.int .u8) := ⟨⟨_, Try.underlying24, rfl⟩, Try.underlying22, Try.underlying5⟩
theorem ndOf {n : Nat} {ds : List Dat} : TyOk Try.prog n 24 ds → ∃ x : Nd, x.fit ∧ ds = x.row := nd_of ndT.1 ndT.2.1 ndT.2.2 n ds
end Go.Proofs.Ytidelhpljjjjmaa
