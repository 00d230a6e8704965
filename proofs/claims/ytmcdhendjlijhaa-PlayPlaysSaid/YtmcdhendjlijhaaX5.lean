/- A state among the arguments. No condition. -/
import Derived.Test.YtmcdhendjlijhaaX1
import Derived.Test.YtmcdhendjlijhaaA1
namespace Go.Pv
open Go.ChangeShapes Go.WideShapes Go.ChangeAt Go.RowKit

theorem fieldsOk_ints {P : Program} {e : TypeId} (he : P.underlying e = some (.int .i64)) {n : Nat} : ∀ (k : Nat) (ds : List Dat), fieldsOk (TyOk P n) (List.replicate k e) ds → ∃ S : List Int, S.length = k ∧ Rok S ∧ ds = S.map (Dat.int .i64)
  | 0, ds, h => ⟨[], rfl, fun _ h => (by cases h), h⟩
  | k + 1, ds, h => by
    obtain ⟨a, b, rfl, ha, hb⟩ := h
    obtain ⟨x, rfl, hx⟩ := ty_int he ha
    obtain ⟨S, h1, h2, rfl⟩ := fieldsOk_ints he k b hb
    refine ⟨x :: S, by rw [List.length_cons, h1], fun y hy => ?_, rfl⟩
    rcases List.mem_cons.1 hy with rfl | hy
    · exact wf_i64 hx
    · exact h2 y hy
theorem st_of {P : Program} {t e : TypeId} {k : Nat} (ht : P.underlying t = some (.array k e)) (he : P.underlying e = some (.int .i64)) (n : Nat) (ds : List Dat) (h : TyOk P n t ds) : ∃ S : List Int, S.length = k ∧ Rok S ∧ ds.map AV.d = S.map fun x => .d (.int .i64 x) := by
  cases n with
  | zero => exact h.elim
  | succ n =>
    rw [TyOk, ht] at h
    obtain ⟨S, h1, h2, rfl⟩ := fieldsOk_ints he k ds h
    exact ⟨S, h1, h2, by rw [List.map_map]; rfl⟩
end Go.Pv
