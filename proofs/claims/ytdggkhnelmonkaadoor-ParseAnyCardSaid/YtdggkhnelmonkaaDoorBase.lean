/- What the laid variable gives a walk; one start that fits; the small types' numbers. No condition. -/
import Derived.Test.YtdggkhnelmonkaaDoorRows
import Derived.Test.YtdggkhnelmonkaaDoorD1
import Derived.Test.YtdggkhnelmonkaaDoorA1
import Derived.Test.YtdggkhnelmonkaaDoorP20
import Derived.ProofKit
import Derived.LaidMore
import Derived.OpenShut
namespace Go.Proofs.YtdggkhnelmonkaaDoor
open Go.ChangeShapes Go.WideShapes Go.ChangeAt Go.RowKit Go.Pv

theorem own : ownKnob Tryd.prog.godebug = none := by kernel_rfl
theorem laidOut : laidOutB Tryd.prog = true := by kernel_rfl
theorem cells9 : Tryd.prog.cellsOf 9 = 1 := by kernel_rfl
theorem gReserved : Tryd.prog.globalNamed "prompter/kind.reserved" = some 1 := by kernel_rfl
theorem tReserved : (Tryd.prog.globals[1]?).map (·.type) = some 35 := by kernel_rfl
abbrev laid1 : List (String × DataW Unit) := [("prompter/kind.reserved", Rows.laid_prompter_kind_reserved)]
theorem door_met (os : Os) (args : Array Value) : laidMetH Tryd.prog laid1 ((World.doorLaid Tryd.prog 400 os).forCall (fun _ _ => 0) ⟨#[], args, []⟩).memory :=
  laidMetH_of_parts3 (fuel := 8) (laidMet_of_run' 8 (by kernel_rfl) (by kernel_rfl)) (by kernel_rfl) (by kernel_rfl)
theorem of_laid {W : World} (h : laidMetH Tryd.prog laid1 W) : GlobIn GK W := by
  rw [MakeChecks.laidMetH_plain _ _ _ (by kernel_rfl)] at h
  obtain ⟨ps, ⟨g0, t0, cs0, f0, p0, q0, hg0, ht0, hv0, hd0, _, _⟩, _, _⟩ := h
  obtain rfl := Option.some.inj (gReserved.symm.trans hg0)
  obtain rfl := Option.some.inj (tReserved.symm.trans ht0)
  obtain ⟨v, hcs, hv⟩ := laid_strs (l := words.map fun s => s.data.toList) Tryd.underlying35 Tryd.underlying9 cells9 (by decide) hd0
  intro g cells hg i hi
  unfold GK at hg
  split at hg
  · rename_i e
    subst e
    cases hg
    have hi0 : i = 0 := by simpa using hi
    subst hi0
    refine ⟨v, ?_, hv⟩
    have := World.var?_cell hg0 hv0 0
    rw [Array.eq_one_of_toList hcs] at this
    simpa [Mem.of] using this
  · cases hg
theorem cells5 : Tryd.prog.cellsOf 5 = 1 := by kernel_rfl
theorem plainS : plainB Tryd.prog [26, 23, 72, 24, 79, 5, 22] = true := by kernel_rfl
theorem smTys : SmTys Tryd.prog 72 23 79 24 26 5 22 := ⟨⟨_, Tryd.underlying72, rfl⟩, Tryd.underlying23, Tryd.underlying5, Tryd.underlying22, ⟨_, Tryd.underlying79, rfl⟩, Tryd.underlying24, ⟨_, Tryd.underlying26, rfl⟩⟩
theorem ndOf {n : Nat} {ds : List Dat} : TyOk Tryd.prog n 72 ds → ∃ x : Nd, x.fit ∧ ds = x.row := nd_of smTys.n smTys.ns smTys.u n ds
end Go.Proofs.YtdggkhnelmonkaaDoor
