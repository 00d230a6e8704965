/- The small bodies' numbers. No condition. -/
import Derived.Test.YtmcdhendjlijhaaBase
import Derived.Test.YtmcdhendjlijhaaX9
namespace Go.Proofs.Ytmcdhendjlijhaa
open Go.ChangeShapes Go.WideShapes Go.ChangeAt Go.RowKit Go.Pv

theorem plain11 : plainB Try.prog [57, 55, 53, 5, 92, 22, 30, 4, 24, 2, 51] = true := by kernel_rfl
theorem sm11T : Sm11Tys Try.prog 57 55 53 5 92 22 30 4 24 2 51 := ⟨⟨_, Try.underlying57, rfl⟩, ⟨_, Try.underlying55, rfl⟩, Try.underlying53, ⟨⟨_, Try.underlying92, rfl⟩, Try.underlying5, Try.underlying30, Try.underlying4⟩, Try.underlying22, Try.underlying24, Try.underlying2, Try.underlying51⟩
end Go.Proofs.Ytmcdhendjlijhaa
