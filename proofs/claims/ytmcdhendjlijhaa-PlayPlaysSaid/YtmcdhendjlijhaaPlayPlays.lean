/- PlayPlays gives true, whatever the input, and its input reads as it did. No condition. -/
import Derived.Test.YtmcdhendjlijhaaRows
import Derived.Test.YtmcdhendjlijhaaBase11
import Derived.Test.YtmcdhendjlijhaaV32
import Derived.ChangeMaps5
namespace Go.Proofs.Ytmcdhendjlijhaa.playPlays
open Go.ChangeShapes Go.WideShapes Go.ChangeAt Go.RowKit Go.Pv Go.ChangeMaps

theorem readable : (Try.f6.params.toList.all fun t => Try.prog.readableRec t && decide (t < Try.prog.types.size)) = true := by kernel_rfl

set_option maxRecDepth 100000 in
theorem contract (H : Type) (enc : TypeId × Value → H) (W : World) (base : Nat) (args : Array Value) (ds gs : List (DataW H)) (before : List MemPlace)
    (hval : ∀ (j : Nat) t v, Try.f6.params[j]? = some t → args[j]? = some v → Value.okWide Try.prog W .any base t v)
    (hW : DataW.Whole enc Try.prog Try.f6.params.toList Rows.playPlaysSpec.vars false W args.toList ds gs before) :
    Calls Try.prog 6 args W fun e W' => ∃ v, e = .returned v ∧ Rows.playPlaysSpec.post enc Try.prog Try.f6 false true false false W args v W' := by
  obtain ⟨al⟩ := args
  have hW' := hW
  obtain ⟨p, q, hA0, hV, rfl, hfz, hnd⟩ := hW
  have hstay := fun W' (hk : Kept W W') => trodAll_stays laidOut hk readable (fun x hx => by have := hW'.lt x (List.mem_append_left _ hx); simpa using this) hA0
  have hA : DataW.TrodAll enc Try.prog W 0 (fun _ => true) true Try.f6.params.toList al ds p := hA0
  rw [Try.params6] at hA hval
  obtain ⟨v0, vs0, d0, ds_0, p0, q0, rfl, rfl, rfl, h0, hA⟩ := trodAll_cons hA
  obtain ⟨rfl, rfl, rfl⟩ := trodAll_nil hA
  obtain ⟨rfl, rfl⟩ := trodVars_none hV
  obtain ⟨_, ds0, hty0, r0⟩ := arg_struct plain11 (by decide) Try.underlying57 (hval 0 57 v0 rfl rfl) h0
  obtain ⟨x0, hx0, e0⟩ := sm11_of sm11T hty0
  rw [e0] at r0
  refine (calls_start (C6 x0 hx0) (.cons r0 (.nil _))).mono ?_
  rintro e W' ⟨u, M', rfl, hu, hk⟩
  obtain rfl := inv_bool hu
  exact ⟨_, rfl, post_kept (pv := []) hW' (fun _ _ _ => trodAll_mk1 (shut_bool Try.underlying4 _)) (hstay W' hk) rfl rfl hk⟩

set_option maxRecDepth 100000 in
theorem lifted (os : Os) (started : os.Started) (H : Type) (enc : TypeId × Value → H) :
    ReturnsInHanded {} Try.checked os 6 .any (Rows.playPlaysSpec.pre6 enc Try.prog Try.f6 Rows.playPlaysRow.domain false) (Rows.playPlaysSpec.post enc Try.prog Try.f6 false true false false) := by
  refine returnsInHanded_of_change (C := Try.checked) own started (by kernel_rfl) Try.func6
    (ChangeSpec.witness6 (enc := enc) (C := Try.checked) false ⟨#[], #[.agg #[.int .u8 0, .int .u8 0, .slice none 0 0, .int .u8 0, .int .u8 0, .slice none 0 0, .slice none 0 0, .int .i64 0, .int .i64 0, .int .i64 0, .int .i64 0, .int .i64 0, .int .i64 0, .int .i64 0, .int .i64 0, .slice none 0 0]], []⟩ 8 (by kernel_rfl) (by kernel_rfl) (by kernel_rfl) (by kernel_rfl)) ?_
  intro W base args ds gs before hval hW _ _
  exact contract H enc W base args ds gs before hval hW

theorem proved : Rows.PlayPlaysSaid :=
  OpenClaim.holds_of_wide 6 Try.f6 rfl rfl rfl rfl rfl rfl rfl ⟨rfl, rfl, rfl, rfl, rfl⟩ rfl rfl rfl rfl rfl (by kernel_rfl) Try.func6 (by kernel_rfl)
    (of_decide_eq_true (by kernel_rfl)) (by unfold Func.isWrapper; first | (rw [if_pos (by decide +kernel)]; kernel_rfl) | (rw [if_neg (by decide +kernel)]; exact ⟨rfl, rfl⟩))
    (fun os started H enc _ => lifted os started H enc)
end Go.Proofs.Ytmcdhendjlijhaa.playPlays
