/- A row that a function hands back, nobody writes it any more: data. No condition. -/
import Derived.Test.YtoghanbjiikheaaP31
import Derived.Test.YtoghanbjiikheaaP26
import Derived.Test.YtoghanbjiikheaaR1
import Derived.Test.YtoghanbjiikheaaP32
namespace Go.Pv
open Go.Proofs

theorem CL.frzP {α : Type} {P : Program} {G : Glob} {f : FuncId} {xs : List AV} {res : α → AV} {F' : α → List Item} {rows : List (List Dat)} {sz : Nat} (h : CL (PCalls P G) f xs [] res F') (hs : ∀ r ∈ rows, r.length = sz)
    (hb : ∀ a, ∃ b cap cells rest, res a = .bsl b 0 rows.length cap ∧ F' a = [.box b cells] ∧ cells.map AV.weak1 = rows.flatten.map .d ++ rest) : Pure (PCalls P G) f xs (.d (.sl rows)) := by
  intro st
  obtain ⟨h1, h2⟩ := (h.2 st st (.nil st)).ends
  refine .of h1 fun M w vals hW hA => (h2 M w vals hW hA).mono ?_
  rintro e w' ⟨u, r, st', M', rfl, hW', hr, hF, a, rfl, hL⟩
  obtain ⟨b, cap, cells, rest, e1, e2, e3⟩ := hb a
  rw [e1] at hr
  rw [e2] at hL
  have hbx : st'.box b = some cells := hL.bx Rem.head
  obtain ⟨t2, hz, hL2⟩ := hL.frz hs e3
  have hR : Rel Fr.no G 1 st M w (put (fun _ => .undef) (some 0) (.bsl b 0 rows.length cap)) st' ⟨#[u], []⟩ w' := by
    refine ⟨M', ⟨hW', fun t => ?_, rfl, ?_⟩, hF⟩
    · cases t with
      | zero => exact hr
      | succ t => exact .undef _
    · exact ⟨rfl, fun _ h => by cases h⟩
  obtain ⟨M2, ⟨hW2, hsl, _⟩, hF2⟩ := hR.frz (hz _)
  have hr2 : AVRel M2 (AV.frz b rows (.bsl b 0 rows.length cap)) u := hsl 0
  rw [show AV.frz b rows (.bsl b 0 rows.length cap) = .d (.sl rows) from if_pos ⟨rfl, rfl, rfl⟩] at hr2
  exact ⟨u, _, st, M2, rfl, hW2.shrink hL2.le, hr2, hF2.shrink hL2.le, rfl, rfl⟩
end Go.Pv
