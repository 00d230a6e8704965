/- Texts of tokens are short; cuts of a list; a table is like itself. No condition. -/
import Derived.Test.YtdggkhnelmonkaaDoorF21
import Derived.Test.YtdggkhnelmonkaaDoorF27
import Derived.Test.YtdggkhnelmonkaaDoorD10
namespace Go.Pv
open Go.Proofs
set_option maxRecDepth 100000
theorem alike_refl (t : TB) : t.alike t = true := by
  simp only [TB.alike, seqB_refl, beq_self_eq_true, Bool.true_and, Bool.and_eq_true]
  exact ⟨⟨eqAll_refl fun a _ => by simp [Al.same, seqB_refl, same_refl], eqAll_refl fun a _ => by simp [Fl.same, seqB_refl]⟩, eqAll_refl fun a _ => by simp [Pc.same, seqB_refl, same_refl]⟩
theorem tx_size {T : TB} (hT : PTB T) (gaps : List Int) (hl : T.toks.length ≤ 20000) : (texM (TX T.toks) gaps (TX T.toks).length).size ≤ 720000 := by
  have := texM_small (TX T.toks) gaps (fun x hx => by
    obtain ⟨y, hy, rfl⟩ := List.mem_map.1 hx
    exact (good_table hT y hy).2) (TX T.toks).length (Nat.le_refl _)
  rw [List.length_map] at this ⊢; omega
theorem tx_small (l : List Tk) (h : ∀ x ∈ l, goodT x) (gaps : List Int) (hl : l.length ≤ 20000) : (texM (TX l) gaps (TX l).length).size ≤ 720000 := by
  have := texM_small (TX l) gaps (fun x hx => by
    obtain ⟨y, hy, rfl⟩ := List.mem_map.1 hx
    exact (h y hy).2) (TX l).length (Nat.le_refl _)
  rw [List.length_map] at this ⊢; omega
theorem ev_to {G : Glob} {s : Slots} {a b : Arg} {rows : List (List Dat)} {sz k : Nat} (ha : a.ev G s = .d (.sl rows)) (hb : b.ev G s = .d (.int .i64 k)) (hk : k ≤ rows.length) : ev G s (.slc sz a none (some b)) = some (.d (.sl (rows.take k))) := by
  simp only [ev, ha, hb, AV.rows?, Option.map_some, Option.map_none, bnds, bnd, Option.bind_some]
  rw [if_pos ⟨by omega, by omega⟩]
  simp only [Option.bind_some, Int.toNat_natCast, true_and, true_or, if_true, List.drop_zero]
  split
  · rename_i e; rw [e, List.take_length]
  · rfl
theorem ev_from {G : Glob} {s : Slots} {a b : Arg} {rows : List (List Dat)} {sz k : Nat} (ha : a.ev G s = .d (.sl rows)) (hb : b.ev G s = .d (.int .i64 k)) (hk : k ≤ rows.length) (hs : ∀ r ∈ rows, r.length = sz) : ev G s (.slc sz a (some b) none) = some (.d (.sl (rows.drop k))) := by
  simp only [ev, ha, hb, AV.rows?, Option.map_some, Option.map_none, bnds, bnd, Option.bind_some]
  rw [if_pos ⟨by omega, by omega⟩]
  simp only [Option.bind_some, Int.toNat_natCast, and_true]
  split
  · rename_i e; rw [e, List.drop_zero]
  · rw [if_pos (.inr (List.all_eq_true.2 fun r hr => by simpa using hs r hr)), List.take_length]
end Go.Pv
