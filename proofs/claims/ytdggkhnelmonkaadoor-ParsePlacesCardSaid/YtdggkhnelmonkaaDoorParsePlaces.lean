/- ParsePlaces gives true, whatever the input, and its input reads as it did; the package variables as the program's text lays them. No condition. -/
import Derived.Test.YtdggkhnelmonkaaDoorRows
import Derived.Test.YtdggkhnelmonkaaDoorCards
import Derived.Test.YtdggkhnelmonkaaDoorTie
import Derived.Test.YtdggkhnelmonkaaDoorBase
import Derived.Test.YtdggkhnelmonkaaDoorF33
import Derived.SevenTiedAt
import Derived.ChangeMaps5
namespace Go.Proofs.YtdggkhnelmonkaaDoor.parsePlaces
open Go.ChangeShapes Go.WideShapes Go.ChangeAt Go.RowKit Go.Pv Go.ChangeMaps

theorem readable : (Tryd.f3.params.toList.all fun t => Tryd.prog.readableRec t && decide (t < Tryd.prog.types.size)) = true := by kernel_rfl

set_option maxRecDepth 100000 in
theorem contract (H : Type) (enc : TypeId × Value → H) (W : World) (base : Nat) (args : Array Value) (ds gs : List (DataW H)) (before : List MemPlace)
    (hval : ∀ (j : Nat) t v, Tryd.f3.params[j]? = some t → args[j]? = some v → Value.okWide Tryd.prog W .any base t v)
    (hW : DataW.Whole enc Tryd.prog Tryd.f3.params.toList Rows.parsePlacesSpec.vars false W args.toList ds gs before) (hL : laidMetH Tryd.prog laid1 W) :
    Calls Tryd.prog 3 args W fun e W' => ∃ v, e = .returned v ∧ Rows.parsePlacesSpec.post enc Tryd.prog Tryd.f3 false true false false W args v W' := by
  obtain ⟨al⟩ := args
  have hW' := hW
  obtain ⟨p, q, hA0, hV, rfl, hfz, hnd⟩ := hW
  have hstay := fun W' (hk : Kept W W') => trodAll_stays laidOut hk readable (fun x hx => by have := hW'.lt x (List.mem_append_left _ hx); simpa using this) hA0
  have hA : DataW.TrodAll enc Tryd.prog W 0 (fun _ => true) true Tryd.f3.params.toList al ds p := hA0
  rw [Tryd.params3] at hA hval
  obtain ⟨v0, vs0, d0, ds_0, p0, q0, rfl, rfl, rfl, h0, hA⟩ := trodAll_cons hA
  obtain ⟨v1, vs1, d1, ds_1, p1, q1, rfl, rfl, rfl, h1, hA⟩ := trodAll_cons hA
  obtain ⟨v2, vs2, d2, ds_2, p2, q2, rfl, rfl, rfl, h2, hA⟩ := trodAll_cons hA
  obtain ⟨rfl, rfl, rfl⟩ := trodAll_nil hA
  obtain ⟨rfl, rfl⟩ := trodVars_none hV
  obtain ⟨_, ds0, hty0, r0⟩ := arg_struct plainS (by decide) Tryd.underlying26 (hval 0 26 v0 rfl rfl) h0
  obtain ⟨s0, hs0, e0⟩ := sm_of smTys hty0
  rw [e0] at r0
  obtain ⟨l1, r1, hl1, w1⟩ := dat_ints Tryd.underlying27 Tryd.underlying5 cells5 (hval 1 27 v1 rfl rfl) h1
  have w1 := fun n hn => wf_u8 (w1 n hn)
  obtain ⟨n2, rfl, rfl, rfl, w2⟩ := open_int Tryd.underlying22 (hval 2 22 v2 rfl rfl) h2
  have w2 := wf_u16 w2
  refine (calls_startG (C3 s0 hs0 l1 hl1 w1 n2 w2) (of_laid hL) (.cons r0 (.cons (.d _ _ r1) (.cons (.d _ _ (.int _ _)) (.nil _))))).mono ?_
  rintro e W' ⟨u, M', rfl, hu, hk⟩
  obtain rfl := inv_bool hu
  exact ⟨_, rfl, post_kept (pv := []) hW' (fun _ _ _ => trodAll_mk1 (shut_bool Tryd.underlying4 _)) (hstay W' hk) rfl rfl hk⟩

set_option maxRecDepth 100000 in
theorem lifted (os : Os) (started : os.Started) (H : Type) (enc : TypeId × Value → H) :
    ReturnsInHanded {} Tryd.checked os 3 .any (fun w args => (Rows.parsePlacesSpec.pre enc Tryd.prog Tryd.f3 [] false w args ∧ laidMetH Tryd.prog laid1 w) ∧ sizedMet enc Tryd.prog Tryd.f3 (OpenSpec.ofChange Rows.parsePlacesSpec) false w args)
      (Rows.parsePlacesSpec.post enc Tryd.prog Tryd.f3 false true false false) := by
  refine returnsInHanded_of_change_and (C := Tryd.checked) (X := fun w _ => laidMetH Tryd.prog laid1 w) (fun _ _ _ hh h => h.of_heap hh) own started (by kernel_rfl) Tryd.func3
    (ChangeSpec.witness_shaped (enc := enc) (C := Tryd.checked) (os := os) (X := fun w _ => laidMetH Tryd.prog laid1 w) false (World.doorLaid Tryd.prog 400 os) #[.agg #[.int .u16 0, .slice none 0 0, .int .u8 0, .slice none 0 0], .slice none 0 0, .int .u16 0] 8 rfl (World.shaped_of_RefB (by kernel_rfl) (by kernel_rfl)) (by kernel_rfl) (by kernel_rfl) (by kernel_rfl) (door_met os _)) ?_
  intro W base args ds gs before hval hW _ _ hL _
  exact contract H enc W base args ds gs before hval hW hL

theorem row : Rows.ParsePlacesSaid :=
  OpenClaim.holds_of_wide 3 Tryd.f3 rfl rfl rfl rfl rfl rfl rfl ⟨rfl, rfl, rfl, rfl, rfl⟩ rfl rfl rfl rfl rfl (by kernel_rfl) Tryd.func3 (by kernel_rfl)
    (of_decide_eq_true (by kernel_rfl)) (by unfold Func.isWrapper; first | (rw [if_pos (by decide +kernel)]; kernel_rfl) | (rw [if_neg (by decide +kernel)]; exact ⟨rfl, rfl⟩))
    (fun os started H enc _ => lifted os started H enc)

theorem proved : Rows.ParsePlacesCardSaid :=
  Claim7.holds_tied_plain_at .later [] [.widerDeep] true (true, "c755307bada28b352ade80bac1c23f49307e85e856af427ea3aea7e9d4eaa090") true
    row (fun _ h => by cases h) (by kernel_rfl) (fun _ h => by cases h) parsePlaces_row_tie rfl ⟨rfl, rfl⟩ (by kernel_rfl) rfl
    (fun f fn hf hfn => by
      obtain rfl : f = 3 := Option.some.inj ((show Tryd.prog.funcNamed "prompter/prompterlaw06.ParsePlaces" = some 3 by kernel_rfl).symm.trans hf) |>.symm
      obtain rfl : fn = Tryd.f3 := (Option.some.inj (Tryd.func3.symm.trans hfn)).symm
      exact ⟨by kernel_rfl, fun j t ht => by
        rw [Tryd.params3] at ht
        have hm : t ∈ [26, 27, 22] := by simpa using Array.mem_of_getElem? ht
        have hall : ([26, 27, 22].all fun u => !Tryd.prog.wantsStandIn u) = true := by kernel_rfl
        exact (show Tryd.prog.wantsStandIn t = false by simpa using List.all_eq_true.1 hall t hm)⟩)
    (by kernel_rfl)
end Go.Proofs.YtdggkhnelmonkaaDoor.parsePlaces
