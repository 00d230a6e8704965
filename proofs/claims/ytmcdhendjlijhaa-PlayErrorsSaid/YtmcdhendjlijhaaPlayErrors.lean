/- PlayErrors gives true, whatever the input, and its input reads as it did. No condition. -/
import Derived.Test.YtmcdhendjlijhaaRows
import Derived.Test.YtmcdhendjlijhaaBase12
import Derived.Test.YtmcdhendjlijhaaV28
import Derived.ChangeMaps5
namespace Go.Proofs.Ytmcdhendjlijhaa.playErrors
open Go.ChangeShapes Go.WideShapes Go.ChangeAt Go.RowKit Go.Pv Go.ChangeMaps

theorem readable : (Try.f7.params.toList.all fun t => Try.prog.readableRec t && decide (t < Try.prog.types.size)) = true := by kernel_rfl

set_option maxRecDepth 100000 in
theorem contract (H : Type) (enc : TypeId × Value → H) (W : World) (base : Nat) (args : Array Value) (ds gs : List (DataW H)) (before : List MemPlace)
    (hval : ∀ (j : Nat) t v, Try.f7.params[j]? = some t → args[j]? = some v → Value.okWide Try.prog W .any base t v)
    (hW : DataW.Whole enc Try.prog Try.f7.params.toList Rows.playErrorsSpec.vars false W args.toList ds gs before) :
    Calls Try.prog 7 args W fun e W' => ∃ v, e = .returned v ∧ Rows.playErrorsSpec.post enc Try.prog Try.f7 false true false false W args v W' := by
  obtain ⟨al⟩ := args
  have hW' := hW
  obtain ⟨p, q, hA0, hV, rfl, hfz, hnd⟩ := hW
  have hstay := fun W' (hk : Kept W W') => trodAll_stays laidOut hk readable (fun x hx => by have := hW'.lt x (List.mem_append_left _ hx); simpa using this) hA0
  have hA : DataW.TrodAll enc Try.prog W 0 (fun _ => true) true Try.f7.params.toList al ds p := hA0
  rw [Try.params7] at hA hval
  obtain ⟨v0, vs0, d0, ds_0, p0, q0, rfl, rfl, rfl, h0, hA⟩ := trodAll_cons hA
  obtain ⟨v1, vs1, d1, ds_1, p1, q1, rfl, rfl, rfl, h1, hA⟩ := trodAll_cons hA
  obtain ⟨v2, vs2, d2, ds_2, p2, q2, rfl, rfl, rfl, h2, hA⟩ := trodAll_cons hA
  obtain ⟨v3, vs3, d3, ds_3, p3, q3, rfl, rfl, rfl, h3, hA⟩ := trodAll_cons hA
  obtain ⟨v4, vs4, d4, ds_4, p4, q4, rfl, rfl, rfl, h4, hA⟩ := trodAll_cons hA
  obtain ⟨rfl, rfl, rfl⟩ := trodAll_nil hA
  obtain ⟨rfl, rfl⟩ := trodVars_none hV
  obtain ⟨_, ds0, hty0, r0⟩ := arg_struct plain11 (by decide) Try.underlying57 (hval 0 57 v0 rfl rfl) h0
  obtain ⟨x0, hx0, e0⟩ := sm11_of sm11T hty0
  rw [e0] at r0
  obtain ⟨l1, r1, hl1, w1⟩ := dat_ints Try.underlying87 Try.underlying5 cells5 (hval 1 87 v1 rfl rfl) h1
  have w1 := fun n hn => wf_u8 (w1 n hn)
  obtain ⟨n2, rfl, rfl, rfl, w2⟩ := open_int Try.underlying5 (hval 2 5 v2 rfl rfl) h2
  have w2 := wf_u8 w2
  obtain ⟨n3, rfl, rfl, rfl, w3⟩ := open_int Try.underlying2 (hval 3 2 v3 rfl rfl) h3
  have w3 := wf_i64 w3
  obtain ⟨l4, f4, b4, r4⟩ := arg_ins plainP (by decide) Try.underlying27 insT Try.underlying29 Try.underlying5 Try.underlying30 (hval 4 27 v4 rfl rfl) h4
  refine (calls_start (C7 x0 hx0 l1 w1 n2 n3 w2 w3 l4 f4) (.cons r0 (.cons (.d _ _ r1) (.cons (.d _ _ (.int _ _)) (.cons (.d _ _ (.int _ _)) (.cons r4 (.nil _))))))).mono ?_
  rintro e W' ⟨u, M', rfl, hu, hk⟩
  obtain rfl := inv_bool hu
  exact ⟨_, rfl, post_kept (pv := []) hW' (fun _ _ _ => trodAll_mk1 (shut_bool Try.underlying4 _)) (hstay W' hk) rfl rfl hk⟩

set_option maxRecDepth 100000 in
theorem lifted (os : Os) (started : os.Started) (H : Type) (enc : TypeId × Value → H) :
    ReturnsInHanded {} Try.checked os 7 .any (Rows.playErrorsSpec.pre6 enc Try.prog Try.f7 Rows.playErrorsRow.domain false) (Rows.playErrorsSpec.post enc Try.prog Try.f7 false true false false) := by
  refine returnsInHanded_of_change (C := Try.checked) own started (by kernel_rfl) Try.func7
    (ChangeSpec.witness6 (enc := enc) (C := Try.checked) false ⟨#[], #[.agg #[.int .u8 0, .int .u8 0, .slice none 0 0, .int .u8 0, .int .u8 0, .slice none 0 0, .slice none 0 0, .int .i64 0, .int .i64 0, .int .i64 0, .int .i64 0, .int .i64 0, .int .i64 0, .int .i64 0, .int .i64 0, .slice none 0 0], .slice none 0 0, .int .u8 0, .int .i64 0, .slice none 0 0], []⟩ 8 (by kernel_rfl) (by kernel_rfl) (by kernel_rfl) (by kernel_rfl)) ?_
  intro W base args ds gs before hval hW _ _
  exact contract H enc W base args ds gs before hval hW

theorem proved : Rows.PlayErrorsSaid :=
  OpenClaim.holds_of_wide 7 Try.f7 rfl rfl rfl rfl rfl rfl rfl ⟨rfl, rfl, rfl, rfl, rfl⟩ rfl rfl rfl rfl rfl (by kernel_rfl) Try.func7 (by kernel_rfl)
    (of_decide_eq_true (by kernel_rfl)) (by unfold Func.isWrapper; first | (rw [if_pos (by decide +kernel)]; kernel_rfl) | (rw [if_neg (by decide +kernel)]; exact ⟨rfl, rfl⟩))
    (fun os started H enc _ => lifted os started H enc)
end Go.Proofs.Ytmcdhendjlijhaa.playErrors
