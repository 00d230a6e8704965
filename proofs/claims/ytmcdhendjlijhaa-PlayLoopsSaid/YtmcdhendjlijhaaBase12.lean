/- The instructions' numbers. No condition. -/
import Derived.Test.YtmcdhendjlijhaaBase11
import Derived.Test.YtmcdhendjlijhaaX9
namespace Go.Proofs.Ytmcdhendjlijhaa
open Go.ChangeShapes Go.WideShapes Go.ChangeAt Go.RowKit Go.Pv

theorem plain10 : plainB Try.prog [22, 92, 5, 30, 4] = true := by kernel_rfl
theorem plainP : plainB Try.prog [27, 32, 29, 5, 30] = true := by kernel_rfl
theorem cells5 : Try.prog.cellsOf 5 = 1 := by kernel_rfl
theorem sm10T : Sm10Tys Try.prog 92 5 30 4 := sm11T.s
theorem insT : ∃ fs, Try.prog.underlying 32 = some (.struct fs) ∧ fs.toList.map (·.type) = [29, 5, 5, 5, 30] := ⟨_, Try.underlying32, rfl⟩
end Go.Proofs.Ytmcdhendjlijhaa
