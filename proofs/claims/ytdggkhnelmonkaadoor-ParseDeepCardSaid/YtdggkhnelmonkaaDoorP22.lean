/- A call by value where package variables are laid. No condition. -/
import Derived.Test.YtdggkhnelmonkaaDoorP21
import Derived.LaidMore
import Derived.Stop.Joined
namespace Go.Pv
open Go.ChangeShapes Go.WideShapes Go.ChangeAt Go.RowKit

/-- What the variables hold. -/
def GlobIn (G : Glob) (W : World) : Prop := ∀ g cells, G g = some cells → ∀ i (h : i < cells.length), ∃ v, Mem.of W g i = some v ∧ DRel (Mem.of W) cells[i] v
theorem WRel.startG {G : Glob} {w : World} (hG : GlobIn G w) : WRel G (Mem.of w) St.none w where
  box := fun b c h => by cases h
  boxM := fun b c h => by cases h
  boxT := fun b c h => by cases h
  tok := fun b k h => by cases h
  imm := fun b o v h => h
  glob := hG

theorem calls_startG {P : Program} {G : Glob} {f : FuncId} {as : List AV} {v : AV} (h : Pure (PCalls P G) f as v) {w : World} (hG : GlobIn G w) {args : Array Value} (hA : ARel (Mem.of w) as args.toList) :
    Calls P f args w fun e w' => ∃ u M', e = .returned u ∧ AVRel M' v u ∧ Kept w w' := by
  obtain ⟨_, hc⟩ := (h St.none).ends
  refine (hc (Mem.of w) w args (WRel.startG hG) hA).mono ?_
  rintro e w' ⟨u, r, st', M', rfl, _, hr, hF, _, rfl⟩
  exact ⟨u, M', rfl, hr, Kept.of_frame hF⟩

/-- A variable that holds a row of texts. -/
theorem laid_strs {H : Type} {enc : TypeId × Value → H} {P : Program} {t e : TypeId} (ht : P.underlying t = some (.slice e)) (he : P.underlying e = some .string) (hc : P.cellsOf e = 1) {W : World} {sp : Nat → Bool} {held : Bool} {fuel : Nat} {cs : List Value} {l : List (List UInt8)} {p : List MemPlace} (h0 : l ≠ [])
    (h : DataW.trod enc P W 0 sp held fuel t cs = some (.slice (l.map fun s => .lit (.string s)) [], p)) :
    ∃ v, cs = [v] ∧ DRel (Mem.of W) (.sl ((l.map fun s => (⟨s.toArray⟩ : ByteArray)).map fun s => [.str s])) v := by
  obtain ⟨a, cap, rfl, hl, hcell⟩ := open_row ht hc h
  rw [List.length_map] at hl
  have key : ∀ i (hi : i < l.length), W.cell? (a.add i) = some (.string ⟨l[i].toArray⟩) := by
    intro i hi
    obtain ⟨v, n, q, h1, h2⟩ := hcell i (.lit (.string l[i])) (by simp [hi])
    rw [h1]
    cases n with
    | zero => simp [DataW.trod] at h2
    | succ n =>
      unfold DataW.trod at h2
      rw [he] at h2
      cases v <;> simp at h2
      rename_i s
      obtain ⟨_, h3, _⟩ := h2
      obtain ⟨⟨d⟩⟩ := s
      simp at h3
      rw [← h3]
  have hpos : 0 < l.length := List.length_pos_iff.2 h0
  have ha := spot_none (w := W) (a := a) (by have := key 0 hpos; rwa [show a.add 0 = a by simp [Addr.add]] at this)
  refine ⟨_, rfl, ?_⟩
  have hL : ((l.map fun s => (⟨s.toArray⟩ : ByteArray)).map fun s => [Dat.str s]).length = l.length := by simp
  have := DRel.sl (M := Mem.of W) ((l.map fun s => (⟨s.toArray⟩ : ByteArray)).map fun s => [.str s]) a.block a.off cap 1 (fun i => .string ⟨(l.getD i []).toArray⟩) (by rw [hL]; exact hl) (fun r hr => by
    simp only [List.mem_map] at hr
    obtain ⟨n, _, rfl⟩ := hr
    rfl) (fun o ho => by
    rw [hL, Nat.mul_one] at ho
    have := key o ho
    rw [ha, add_mid] at this
    rw [List.getD_eq_getElem?_getD, List.getElem?_eq_getElem ho]
    exact this) (fun i j hi hj => by
    rw [hL] at hi
    simp only [List.getElem_map] at hj ⊢
    simp only [List.length_cons, List.length_nil] at hj
    obtain rfl : j = 0 := by omega
    rw [Nat.mul_one, Nat.add_zero, List.getD_eq_getElem?_getD, List.getElem?_eq_getElem hi]
    exact .str _)
  rw [hL] at this
  rw [List.length_map, ha]
  exact this
end Go.Pv
