/- A call by value, as a statement asks for it. No condition. -/
import Derived.Test.YtmkfohiocklkoaaDoorP17
import Derived.ProofKit
import Derived.Below
import Derived.OpenShut
namespace Go.Pv
open Go.ChangeShapes Go.WideShapes Go.ChangeAt Go.RowKit

/-- No variable is followed. -/
def St.none : St := ⟨fun _ => .none, fun _ => .none, ⟨0, fun _ _ => ⟨rfl, rfl⟩⟩⟩
/-- All of a world's memory, as it lies. -/
def Mem.of (w : World) : Mem := fun b o => w.cell? ⟨b, o, .none⟩
theorem WRel.start (w : World) : WRel (fun _ => .none) (Mem.of w) St.none w where
  box := fun b c h => by cases h
  boxM := fun b c h => by cases h
  boxT := fun b c h => by cases h
  tok := fun b k h => by cases h
  imm := fun b o v h => h
  glob := fun g c h => by cases h

/-- What was there stays. -/
def Kept (w w' : World) : Prop := Below w.heap.size w w'
theorem Kept.of_frame {st' : St} {M M' : Mem} {w w' : World} (h : Frame St.none st' M M' w w') : Kept w w' :=
  ⟨h.os, h.tape, h.output, h.size, fun b hb => h.blk b hb rfl rfl⟩
theorem Kept.keptBut {w w' : World} (h : Kept w w') (may : MemPlace → Prop) : w.keptBut w' may := by
  refine ⟨h.os, h.output, fun i hi => ?_⟩
  rw [h.block i hi]
  cases w.heap[i]? with
  | none => rfl
  | some o => cases o <;> first | exact ⟨rfl, rfl, rfl, fun _ _ => rfl⟩ | exact .inr ⟨rfl, rfl⟩ | rfl

/-- The call that is asked for. -/
theorem calls_start {P : Program} {f : FuncId} {as : List AV} {v : AV} (h : Pure (PCalls P fun _ => .none) f as v) {w : World} {args : Array Value} (hA : ARel (Mem.of w) as args.toList) :
    Calls P f args w fun e w' => ∃ u M', e = .returned u ∧ AVRel M' v u ∧ Kept w w' := by
  obtain ⟨_, hc⟩ := h St.none
  refine (hc (Mem.of w) w args (WRel.start w) hA).mono ?_
  rintro e w' ⟨u, r, st', M', rfl, _, hr, hF, _, rfl⟩
  exact ⟨u, M', rfl, hr, Kept.of_frame hF⟩

section
variable {H : Type} {enc : TypeId × Value → H} {P : Program}

/-- What comes of it: the results' reading, the arguments as they were. -/
theorem post_kept {f : Func} {s : ChangeSpec} {apart fresh handsOn : Bool} {W W' : World} {args : Array Value} {v : Value} {ds gs : List (DataW H)} {before pa pv : List MemPlace}
    (hW : DataW.Whole enc P f.params.toList s.vars apart W args.toList ds gs before)
    (hres : ∀ (b : Nat) (sp : Nat → Bool) (hd : Bool), DataW.TrodAll enc P W' b sp hd f.resultTypes.toList (v.resultList f.resultTypes.size) (s.fn H (ds ++ gs)).results [])
    (hargs : DataW.TrodAll enc P W' 0 (fun b => decide (b < W.heap.size)) true f.params.toList args.toList (s.fn H (ds ++ gs)).args pa)
    (hvars : DataW.TrodVars enc P W' (fun b => decide (b < W.heap.size)) s.vars (s.fn H (ds ++ gs)).vars pv)
    (_ : before = pa ++ pv) (hk : Kept W W') : s.post enc P f apart fresh handsOn false W args v W' := by
  refine ⟨ds, gs, before, [], pa, pv, hW, hres _ _ _, hargs, hvars, hk.keptBut _, fun h => by cases h⟩
end

end Go.Pv
