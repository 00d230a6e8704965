/- A call by value, as a statement asks for it. No condition. -/
import Derived.Test.YtdggkhnelmonkaaDoorP16
import Derived.ProofKit
import Derived.Below
import Derived.OpenShut
import Derived.Carry
import Derived.ChangeSlices
namespace Go.Pv
open Go.ChangeShapes Go.WideShapes Go.ChangeAt Go.RowKit

/-- No variable is followed. -/
def St.none : St := ⟨fun _ => .none, fun _ => .none, ⟨0, fun _ _ => ⟨rfl, rfl⟩⟩⟩
/-- All of a world's memory, as it lies. -/
def Mem.of (w : World) : Mem := fun b o => w.cell? ⟨b, o, .none⟩
theorem WRel.start (w : World) : WRel (fun _ => .none) (Mem.of w) St.none w where
  box := fun b c h => by cases h
  boxM := fun b c h => by cases h
  boxT := fun b c h => by cases h
  tok := fun b k h => by cases h
  imm := fun b o v h => h
  glob := fun g c h => by cases h

/-- What was there stays. -/
def Kept (w w' : World) : Prop := Below w.heap.size w w'
theorem Kept.of_frame {st' : St} {M M' : Mem} {w w' : World} (h : Frame St.none st' M M' w w') : Kept w w' :=
  ⟨h.os, h.tape, h.output, h.size, fun b hb => h.blk b hb rfl rfl⟩
theorem Kept.keptBut {w w' : World} (h : Kept w w') (may : MemPlace → Prop) : w.keptBut w' may := by
  refine ⟨h.os, h.output, fun i hi => ?_⟩
  rw [h.block i hi]
  cases w.heap[i]? with
  | none => rfl
  | some o => cases o <;> first | exact ⟨rfl, rfl, rfl, fun _ _ => rfl⟩ | exact .inr ⟨rfl, rfl⟩ | rfl

/-- The call that is asked for. -/
theorem calls_start {P : Program} {f : FuncId} {as : List AV} {v : AV} (h : Pure (PCalls P fun _ => .none) f as v) {w : World} {args : Array Value} (hA : ARel (Mem.of w) as args.toList) :
    Calls P f args w fun e w' => ∃ u M', e = .returned u ∧ AVRel M' v u ∧ Kept w w' := by
  obtain ⟨_, hc⟩ := (h St.none).ends
  refine (hc (Mem.of w) w args (WRel.start w) hA).mono ?_
  rintro e w' ⟨u, r, st', M', rfl, _, hr, hF, _, rfl⟩
  exact ⟨u, M', rfl, hr, Kept.of_frame hF⟩

section
variable {H : Type} {enc : TypeId × Value → H} {P : Program}

/-- What comes of it: the results' reading, the arguments as they were. -/
theorem post_kept {f : Func} {s : ChangeSpec} {apart fresh handsOn : Bool} {W W' : World} {args : Array Value} {v : Value} {ds gs : List (DataW H)} {before pa pv : List MemPlace}
    (hW : DataW.Whole enc P f.params.toList s.vars apart W args.toList ds gs before)
    (hres : ∀ (b : Nat) (sp : Nat → Bool) (hd : Bool), DataW.TrodAll enc P W' b sp hd f.resultTypes.toList (v.resultList f.resultTypes.size) (s.fn H (ds ++ gs)).results [])
    (hargs : DataW.TrodAll enc P W' 0 (fun b => decide (b < W.heap.size)) true f.params.toList args.toList (s.fn H (ds ++ gs)).args pa)
    (hvars : DataW.TrodVars enc P W' (fun b => decide (b < W.heap.size)) s.vars (s.fn H (ds ++ gs)).vars pv)
    (_ : before = pa ++ pv) (hk : Kept W W') : s.post enc P f apart fresh handsOn false W args v W' := by
  refine ⟨ds, gs, before, [], pa, pv, hW, hres _ _ _, hargs, hvars, hk.keptBut _, fun h => by cases h⟩
end

end Go.Pv
/- Arguments read as data. No condition. -/
namespace Go.Pv
open Go.ChangeShapes Go.WideShapes Go.ChangeAt Go.RowKit

theorem Kept.below {w w' : World} (h : Kept w w') : Below w.heap.size w w' := h

section
variable {H : Type} {enc : TypeId × Value → H} {P : Program}

/-- All arguments read as they did. -/
theorem trodAll_stays (hl : laidOutB P = true) {W W' : World} (hk : Kept W W') : ∀ {ts : List TypeId} {vs : List Value} {ds : List (DataW H)} {ps : List MemPlace},
    (ts.all fun t => P.readableRec t && decide (t < P.types.size)) = true → (∀ p ∈ ps, p.block < W.heap.size) → DataW.TrodAll enc P W 0 (fun _ => true) true ts vs ds ps →
    DataW.TrodAll enc P W' 0 (fun b => decide (b < W.heap.size)) true ts vs ds ps
  | [], vs, ds, ps, _, _, h => by
    obtain ⟨rfl, rfl, rfl⟩ := trodAll_nil h
    exact trodAll_mk0
  | t :: ts, vs, ds, ps, ht, hps, h => by
    obtain ⟨v, vs1, d, ds1, p, q, rfl, rfl, rfl, h1, h2⟩ := trodAll_cons h
    simp only [List.all_cons, Bool.and_eq_true, decide_eq_true_eq] at ht
    exact trodAll_cons_mk (Below.trod hl ht.1.1 ht.1.2 h1 hk.below (fun x hx => hps x (List.mem_append_left _ hx)))
      (trodAll_stays hl hk ht.2 (fun x hx => hps x (List.mem_append_right _ hx)) h2)

theorem cells_single {v u : Value} (hv : ∃ a len cap, v = .slice a len cap) (h : v.cells.toList = [u]) : v = u := by
  obtain ⟨a, len, cap, rfl⟩ := hv
  simpa [Value.cells] using h

theorem spot_none {w : World} {a : Addr} {v : Value} (h : w.cell? a = some v) : a = ⟨a.block, a.off, .none⟩ := by
  obtain ⟨b, o, s⟩ := a
  cases s with
  | none => rfl
  | some k =>
    unfold World.cell? at h
    split at h
    · simp at h
    · cases h

/-- A slice of integers. -/
theorem dat_ints {t e : TypeId} {k : IntKind} (ht : P.underlying t = some (.slice e)) (he : P.underlying e = some (.int k)) (hc : P.cellsOf e = 1) {W : World} {r : Reach} {b0 : Nat} {v : Value} {d : DataW H} {ps : List MemPlace} {sp : Nat → Bool} {held : Bool}
    (hval : Value.okWide P W r b0 t v) (h : DataW.Trod enc P W 0 sp held t v d ps) :
    ∃ l : List Int, DRel (Mem.of W) (.sl (l.map fun n => [.int k n])) v ∧ l.length ≤ maxLen ∧ ∀ n ∈ l, (Lit.int k n).wf = true := by
  have hv := okWide_slice ht hval
  obtain ⟨fuel, hf⟩ := h
  rcases open_ints ht he hc hf with ⟨hcs, _⟩ | ⟨a, len, cap, zs, hcs, _, hl, hm, hlen, _, hcell, hwf⟩
  · obtain rfl := cells_single hv hcs
    exact ⟨[], .slE _ _, Nat.zero_le _, fun n hn => by cases hn⟩
  · obtain rfl := cells_single hv hcs
    have hzl : len ≤ zs.length := by rw [hlen]; split <;> omega
    refine ⟨zs.take len, ?_, by rw [List.length_take]; omega, fun n hn => hwf n (List.mem_of_mem_take hn)⟩
    by_cases h0 : len = 0
    · subst h0
      simpa using DRel.slE (M := Mem.of W) (some a) cap
    · have ha := spot_none (w := W) (a := a) (by have := hcell 0 (by omega); simpa [Addr.add] using this)
      have hL : ((zs.take len).map fun n => [Dat.int k n]).length = len := by simp; omega
      have := DRel.sl (M := Mem.of W) ((zs.take len).map fun n => [.int k n]) a.block a.off cap 1 (fun i => .int k (zs.getD i 0)) (by rw [hL]; exact hl) (fun r hr => by
        simp only [List.mem_map] at hr
        obtain ⟨n, _, rfl⟩ := hr
        rfl) (fun o ho => by
        rw [hL, Nat.mul_one] at ho
        have := hcell o (by omega)
        rw [ha, add_mid] at this
        exact this) (fun i j hi hj => by
        rw [hL] at hi
        simp only [List.getElem_map] at hj ⊢
        simp only [List.length_cons, List.length_nil] at hj
        obtain rfl : j = 0 := by omega
        have : zs.getD (i * 1 + 0) 0 = zs[i]'(by omega) := by simp [List.getD, List.getElem?_eq_getElem (show i < zs.length by omega)]
        rw [this]
        simp only [List.getElem_cons_zero, List.getElem_take]
        exact .int _ _)
      rw [hL] at this
      rw [ha]
      exact this
end


/-- What a pure call gives in one state. -/
def PureAt (C : CallsP) (st : St) (f : FuncId) (as : List AV) (v : AV) : Prop := C f as st (fun r st' => st' = st ∧ r = v)
theorem Pure.at {C : CallsP} {f : FuncId} {as : List AV} {v : AV} (h : Pure C f as v) (st : St) : PureAt C st f as v := h st

section
variable {G : Glob} {C : CallsP}
theorem po_callA {f : FuncId} {args : List Arg} {d : Option Nat} {rest : List POper} {K : X → Prop} {s : Slots} {m : Mx} {as : List AV} (hargs : (args.map fun (p : Arg) => p.ev G s).map AV.weak = as) {v : AV}
    (hc : PureAt C m.st f as v) (_ : ∀ b cells, False → m.st.box b = some cells) (h : pops G C rest K ⟨put s d v, m⟩) : pops G C (⟨d, .call0 f args, none⟩ :: rest) K ⟨s, m⟩ := by
  rw [pops_plain]
  unfold ostep
  simp only [nf, hargs]
  exact ⟨_, hc, fun _ hL => ⟨v, m.st, ⟨rfl, rfl⟩, hL⟩, fun r st' hr => by obtain ⟨rfl, rfl⟩ := hr; exact h⟩
theorem po_callpA {f : FuncId} {args : List Arg} {d : Option Nat} {rest : List POper} {K : X → Prop} {s : Slots} {m : Mx} {as : List AV} (hargs : (args.map fun (p : Arg) => p.ev G s).map AV.weak = as) {v : AV}
    (hc : PureAt C m.st f as v) (h : pops G C rest K ⟨put s d v, m⟩) : pops G C (⟨d, .callp f args, none⟩ :: rest) K ⟨s, m⟩ := by
  rw [pops_plain]
  unfold ostep
  simp only [nf, hargs]
  exact ⟨fun r => r = v, hc, ⟨v, rfl⟩, fun r hr => by subst hr; exact h⟩
/-- A call through a function's value. -/
theorem po_callv {x : Arg} {f : FuncId} {first caps : List Dat} {args : List Arg} {d : Option Nat} {rest : List POper} {K : X → Prop} {s : Slots} {m : Mx} {as : List AV} (hx : x.ev G s = .d (.fn f first caps))
    (hargs : first.map .d ++ ((args.map fun (p : Arg) => p.ev G s).map AV.weak) ++ caps.map .d = as) {v : AV} (hc : PureAt C m.st f as v) (_ : ∀ b cells, False → m.st.box b = some cells) (h : pops G C rest K ⟨put s d v, m⟩) :
    pops G C (⟨d, .callv0 x args, none⟩ :: rest) K ⟨s, m⟩ := by
  rw [pops_plain]
  unfold ostep
  simp only [nf, hx, hargs]
  exact ⟨_, hc, fun _ hL => ⟨v, m.st, ⟨rfl, rfl⟩, hL⟩, fun r st' hr => by obtain ⟨rfl, rfl⟩ := hr; exact h⟩
theorem po_callvp {x : Arg} {f : FuncId} {first caps : List Dat} {args : List Arg} {d : Option Nat} {rest : List POper} {K : X → Prop} {s : Slots} {m : Mx} {as : List AV} (hx : x.ev G s = .d (.fn f first caps))
    (hargs : first.map .d ++ ((args.map fun (p : Arg) => p.ev G s).map AV.weak) ++ caps.map .d = as) {v : AV} (hc : PureAt C m.st f as v) (h : pops G C rest K ⟨put s d v, m⟩) :
    pops G C (⟨d, .callvp x args, none⟩ :: rest) K ⟨s, m⟩ := by
  rw [pops_plain]
  unfold ostep
  simp only [nf, hx, hargs]
  exact ⟨fun r => r = v, hc, ⟨v, rfl⟩, fun r hr => by subst hr; exact h⟩
end

/-- Any loop: something falls with each round. -/
theorem ploop {G : Glob} {C : CallsP} {keep : Option (List Nat)} {c : PCode} {Q : PEx → Slots → St → Prop} (J : Nat → Slots → St → Prop)
    (hstep : ∀ m s t, J m s t → pwp G C c (PEx.next (fun s' t' => ∃ m', m' < m ∧ J m' (trim keep s') t') Q) s t) {m : Nat} {s : Slots} {t : St} (h0 : J m (trim keep s) t) : pwp G C (.loop keep c) Q s t := by
  have key : ∀ n m s t, m < n → J m (trim keep s) t → prounds (fun Q s t => pwp G C c Q (trim keep s) t) Q n s t := by
    intro n
    induction n with
    | zero => intro m s t hm; omega
    | succ n ih =>
      intro m s t hm hJ
      refine pwp_mono ?_ (hstep m _ _ hJ)
      intro e s' t' he
      cases e with
      | normal => obtain ⟨m', h1, h2⟩ := he; exact ih m' s' t' (by omega) h2
      | exit j => exact he
      | ret => exact he
  exact ⟨m + 1, key (m + 1) m s t (by omega) h0⟩

end Go.Pv
