/- PlayRaises gives true, whatever the input, and its input reads as it did. No condition. -/
import Derived.Test.YtmcdhendjlijhaaRows
import Derived.Test.YtmcdhendjlijhaaBase
import Derived.Test.YtmcdhendjlijhaaX4
import Derived.ChangeMaps5
namespace Go.Proofs.Ytmcdhendjlijhaa.playRaises
open Go.ChangeShapes Go.WideShapes Go.ChangeAt Go.RowKit Go.Pv Go.ChangeMaps

theorem readable : (Try.f4.params.toList.all fun t => Try.prog.readableRec t && decide (t < Try.prog.types.size)) = true := by kernel_rfl

set_option maxRecDepth 100000 in
theorem contract (H : Type) (enc : TypeId × Value → H) (W : World) (base : Nat) (args : Array Value) (ds gs : List (DataW H)) (before : List MemPlace)
    (hval : ∀ (j : Nat) t v, Try.f4.params[j]? = some t → args[j]? = some v → Value.okWide Try.prog W .any base t v)
    (hW : DataW.Whole enc Try.prog Try.f4.params.toList Rows.playRaisesSpec.vars false W args.toList ds gs before) :
    Calls Try.prog 4 args W fun e W' => ∃ v, e = .returned v ∧ Rows.playRaisesSpec.post enc Try.prog Try.f4 false true false false W args v W' := by
  obtain ⟨al⟩ := args
  have hW' := hW
  obtain ⟨p, q, hA0, hV, rfl, hfz, hnd⟩ := hW
  have hstay := fun W' (hk : Kept W W') => trodAll_stays laidOut hk readable (fun x hx => by have := hW'.lt x (List.mem_append_left _ hx); simpa using this) hA0
  have hA : DataW.TrodAll enc Try.prog W 0 (fun _ => true) true Try.f4.params.toList al ds p := hA0
  rw [Try.params4] at hA hval
  obtain ⟨v0, vs0, d0, ds_0, p0, q0, rfl, rfl, rfl, h0, hA⟩ := trodAll_cons hA
  obtain ⟨v1, vs1, d1, ds_1, p1, q1, rfl, rfl, rfl, h1, hA⟩ := trodAll_cons hA
  obtain ⟨v2, vs2, d2, ds_2, p2, q2, rfl, rfl, rfl, h2, hA⟩ := trodAll_cons hA
  obtain ⟨v3, vs3, d3, ds_3, p3, q3, rfl, rfl, rfl, h3, hA⟩ := trodAll_cons hA
  obtain ⟨rfl, rfl, rfl⟩ := trodAll_nil hA
  obtain ⟨rfl, rfl⟩ := trodVars_none hV
  obtain ⟨_, ds0, hty0, r0⟩ := arg_array plainA (by decide) Try.underlying24 (hval 0 24 v0 rfl rfl) h0
  obtain ⟨S0, hS0, R0, e0⟩ := stOf hty0
  rw [e0] at r0
  obtain ⟨n1, rfl, rfl, rfl, w1⟩ := open_int Try.underlying2 (hval 1 2 v1 rfl rfl) h1
  have w1 := wf_i64 w1
  obtain ⟨n2, rfl, rfl, rfl, w2⟩ := open_int Try.underlying5 (hval 2 5 v2 rfl rfl) h2
  have w2 := wf_u8 w2
  obtain ⟨n3, rfl, rfl, rfl, w3⟩ := open_int Try.underlying5 (hval 3 5 v3 rfl rfl) h3
  have w3 := wf_u8 w3
  refine (calls_start (raisesS S0 hS0 R0 n1 n2 n3 w1 w2 w3) (.cons r0 (.cons (.d _ _ (.int _ _)) (.cons (.d _ _ (.int _ _)) (.cons (.d _ _ (.int _ _)) (.nil _)))))).mono ?_
  rintro e W' ⟨u, M', rfl, hu, hk⟩
  obtain rfl := inv_bool hu
  exact ⟨_, rfl, post_kept (pv := []) hW' (fun _ _ _ => trodAll_mk1 (shut_bool Try.underlying4 _)) (hstay W' hk) rfl rfl hk⟩

set_option maxRecDepth 100000 in
theorem lifted (os : Os) (started : os.Started) (H : Type) (enc : TypeId × Value → H) :
    ReturnsInHanded {} Try.checked os 4 .any (Rows.playRaisesSpec.pre6 enc Try.prog Try.f4 Rows.playRaisesRow.domain false) (Rows.playRaisesSpec.post enc Try.prog Try.f4 false true false false) := by
  refine returnsInHanded_of_change (C := Try.checked) own started (by kernel_rfl) Try.func4
    (ChangeSpec.witness6 (enc := enc) (C := Try.checked) false ⟨#[], #[.agg #[.int .i64 0, .int .i64 0, .int .i64 0, .int .i64 0, .int .i64 0, .int .i64 0, .int .i64 0, .int .i64 0], .int .i64 0, .int .u8 0, .int .u8 0], []⟩ 8 (by kernel_rfl) (by kernel_rfl) (by kernel_rfl) (by kernel_rfl)) ?_
  intro W base args ds gs before hval hW _ _
  exact contract H enc W base args ds gs before hval hW

theorem proved : Rows.PlayRaisesSaid :=
  OpenClaim.holds_of_wide 4 Try.f4 rfl rfl rfl rfl rfl rfl rfl ⟨rfl, rfl, rfl, rfl, rfl⟩ rfl rfl rfl rfl rfl (by kernel_rfl) Try.func4 (by kernel_rfl)
    (of_decide_eq_true (by kernel_rfl)) (by unfold Func.isWrapper; first | (rw [if_pos (by decide +kernel)]; kernel_rfl) | (rw [if_neg (by decide +kernel)]; exact ⟨rfl, rfl⟩))
    (fun os started H enc _ => lifted os started H enc)
end Go.Proofs.Ytmcdhendjlijhaa.playRaises
