/- The small types' numbers. No condition. -/
import Derived.Test.YtmcdhendjlijhaaRows
import Derived.Test.YtmcdhendjlijhaaX5
import Derived.ProofKit
import Derived.OpenShut
namespace Go.Proofs.Ytmcdhendjlijhaa
open Go.ChangeShapes Go.WideShapes Go.ChangeAt Go.RowKit Go.Pv

theorem own : ownKnob Try.prog.godebug = none := by kernel_rfl
theorem laidOut : laidOutB Try.prog = true := by kernel_rfl
theorem plainA : plainB Try.prog [24, 2] = true := by kernel_rfl
theorem stOf {n : Nat} {ds : List Dat} : TyOk Try.prog n 24 ds → ∃ S : List Int, S.length = 8 ∧ Rok S ∧ ds.map AV.d = S.map fun x => .d (.int .i64 x) := st_of Try.underlying24 Try.underlying2 n ds
end Go.Proofs.Ytmcdhendjlijhaa
