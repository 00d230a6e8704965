/- Running code by value: rules. No condition. -/
import Derived.Test.YtdggkhnelmonkaaDoorP16
namespace Go.Pv

section
variable {G : Glob} {C : CallsP} {P : Program}

/-- What a pure call gives. -/
def Pure (C : CallsP) (f : FuncId) (as : List AV) (v : AV) : Prop := ∀ st, C f as st (fun r st' => st' = st ∧ r = v)

theorem holds_pX {s : Slots} {t u : St} : (pX s t).m.holds u := fun _ _ h => h.elim
theorem holds_past {m : Mx} {t u : St} : (m.past t).holds u ↔ m.holds u := Iff.rfl
theorem holds_setSt {m : Mx} {t u : St} : (m.setSt t).holds u ↔ m.holds u := Iff.rfl
theorem pops_plain {po : POp} {d : Option Nat} {rest : List POper} {K : X → Prop} {s : Slots} {m : Mx} :
    pops G C (⟨d, po, none⟩ :: rest) K ⟨s, m⟩ = ostep G C s po m (fun v m' => pops G C rest K ⟨put s d v, m'⟩) := rfl
theorem pops_guard {po : POp} {d : Option Nat} {g : Nat × Bool} {rest : List POper} {K : X → Prop} {s : Slots} {m : Mx} :
    pops G C (⟨d, po, some g⟩ :: rest) K ⟨s, m⟩ = match wants s (some g) with | some true => pops G C (⟨d, po, none⟩ :: rest) K ⟨s, m⟩ | some false => pops G C rest K ⟨put s d (.tup []), m⟩ | none => False := rfl

theorem put_same {s : Slots} {t : Nat} {v : AV} : put s (some t) v t = v := if_pos rfl
theorem put_ne {s : Slots} {t u : Nat} {v : AV} (h : u ≠ t) : put s (some t) v u = s u := if_neg h
theorem ev_t {s : Slots} {n : Nat} : (Arg.t n).ev G s = s n := rfl
theorem ev_c {s : Slots} {v : AV} : (Arg.c v).ev G s = v := rfl
theorem put_none {s : Slots} {v : AV} : put s none v = s := rfl
theorem setSt_st {m : Mx} {t : St} : (m.setSt t).st = t := rfl
theorem past_st {m : Mx} {t : St} : (m.past t).st = t := rfl

/-- How slots are read. -/
theorem pvl : (∀ (G : Glob) (s : Slots) (n : Nat), (Arg.t n).ev G s = s n) ∧ (∀ (G : Glob) (s : Slots) (v : AV), (Arg.c v).ev G s = v) ∧ (∀ (s : Slots) (t : Nat) (v : AV), put s (some t) v t = v) ∧
    (∀ (s : Slots) (t u : Nat) (v : AV), u ≠ t → put s (some t) v u = s u) ∧ (∀ (s : Slots) (v : AV), put s none v = s) ∧ (∀ (m : Mx) (t : St), (m.setSt t).st = t) ∧ (∀ (m : Mx) (t : St), (m.past t).st = t) ∧
    (∀ (s : Slots) (t : St), (pX s t).sl = s) ∧ (∀ (s : Slots) (t : St), (pX s t).m.st = t) ∧ (∀ b : Bool, b2 b = .d (.bool b)) ∧ (!true) = false ∧ (!false) = true ∧ (∀ (i : Decidable True) (a b : AV), @ite AV True i a b = a) ∧ (∀ (i : Decidable False) (a b : AV), @ite AV False i a b = b) ∧
    (∀ (i : Decidable True) (a b : Bool), @ite Bool True i a b = a) ∧ (∀ (i : Decidable False) (a b : Bool), @ite Bool False i a b = b) ∧ (false = true) = False ∧ (true == true) = true ∧ (true == false) = false ∧ (false == true) = false ∧ (false == false) = true ∧ (∀ b : Bool, (b || true) = true) ∧ (∀ b : Bool, (b || false) = b) ∧ (∀ b : Bool, (true || b) = true) ∧ (∀ b : Bool, (false || b) = b) ∧ (∀ b : Bool, (b && true) = b) ∧ (∀ b : Bool, (b && false) = false) ∧ (∀ b : Bool, (true && b) = b) ∧ (∀ b : Bool, (false && b) = false) ∧ (∀ a : Int, (a == a) = true) :=
  ⟨fun _ _ _ => rfl, fun _ _ _ => rfl, fun _ _ _ => if_pos rfl, fun _ _ _ _ h => if_neg h, fun _ _ => rfl, fun _ _ => rfl, fun _ _ => rfl, fun _ _ => rfl, fun _ _ => rfl, fun _ => rfl, rfl, rfl, fun _ _ _ => if_pos trivial, fun _ _ _ => if_neg id, fun _ _ _ => if_pos trivial, fun _ _ _ => if_neg id, by simp, by simp⟩
/-- What is kept. -/
theorem pvt : (∀ (l : List Nat) (s : Slots), trim (some l) s = l.foldr (fun t acc => put acc (some t) (s t)) (fun _ => .undef)) ∧ (∀ (f : Nat → Slots → Slots) (z : Slots), List.foldr f z [] = z) ∧ (∀ (f : Nat → Slots → Slots) (z : Slots) (x : Nat) (l : List Nat), List.foldr f z (x :: l) = f x (List.foldr f z l)) :=
  ⟨fun _ _ => rfl, fun _ _ => rfl, fun _ _ _ _ => rfl⟩

theorem pseq {a b : PCode} {Q : PEx → Slots → St → Prop} {s : Slots} {t : St} (h : pwp G C a (PEx.next (pwp G C b Q) Q) s t) : pwp G C (.seq a b) Q s t := h
theorem pseqk {a b : PCode} {l : List Nat} {Q : PEx → Slots → St → Prop} {s : Slots} {t : St} (h : pwp G C a (PEx.next (pwp G C (.keep l b) Q) Q) s t) : pwp G C (.seq a (.keep l b)) Q s t := h
theorem pseqr {a : List POper} {b : PCode} {l : List Nat} {Q : PEx → Slots → St → Prop} {s : Slots} {t : St} (h : pwp G C (.region a) (PEx.next (pwp G C (.keep l b) Q) Q) s t) : pwp G C (.seq (.region a) (.keep l b)) Q s t := h
theorem pseqe {a : List POper} {r : List POper} {c : Arg} {b : PCode} {l : List Nat} {Q : PEx → Slots → St → Prop} {s : Slots} {t : St} (h : pwp G C (.seq (.region a) (.cond c (.seq (.region r) .ret) .skip)) (PEx.next (pwp G C (.keep l b) Q) Q) s t) : pwp G C (.seq (.seq (.region a) (.cond c (.seq (.region r) .ret) .skip)) (.keep l b)) Q s t := h
theorem pseqe2 {a : List POper} {c : Arg} {b : PCode} {l : List Nat} {Q : PEx → Slots → St → Prop} {s : Slots} {t : St} (h : pwp G C (.seq (.region a) (.cond c .ret .skip)) (PEx.next (pwp G C (.keep l b) Q) Q) s t) : pwp G C (.seq (.seq (.region a) (.cond c .ret .skip)) (.keep l b)) Q s t := h
theorem pseqe3 {a : List POper} {id : Nat} {c : Arg} {b : PCode} {l : List Nat} {Q : PEx → Slots → St → Prop} {s : Slots} {t : St} (h : pwp G C (.seq (.region a) (.cond c (.exit id) .skip)) (PEx.next (pwp G C (.keep l b) Q) Q) s t) : pwp G C (.seq (.seq (.region a) (.cond c (.exit id) .skip)) (.keep l b)) Q s t := h
theorem pseqe4 {a : List POper} {r : List POper} {id : Nat} {c : Arg} {b : PCode} {l : List Nat} {Q : PEx → Slots → St → Prop} {s : Slots} {t : St} (h : pwp G C (.seq (.region a) (.cond c (.seq (.region r) (.exit id)) .skip)) (PEx.next (pwp G C (.keep l b) Q) Q) s t) : pwp G C (.seq (.seq (.region a) (.cond c (.seq (.region r) (.exit id)) .skip)) (.keep l b)) Q s t := h
theorem pkeep {b : PCode} {l : List Nat} {Q : PEx → Slots → St → Prop} {s : Slots} {t : St} (h : pwp G C b Q (trim (some l) s) t) : pwp G C (.keep l b) Q s t := ⟨_, _, .refl _ _, h⟩
/-- Where ways meet. -/
theorem pjoin {a b : PCode} {l : List Nat} {Q : PEx → Slots → St → Prop} {s : Slots} {t : St} (J : Slots → St → Prop) (h1 : pwp G C a (PEx.next (fun s' t' => J (trim (some l) s') t') Q) s t) (h2 : ∀ s t, J s t → pwp G C b Q s t) :
    pwp G C (.seq a (.keep l b)) Q s t :=
  pseqk (pwp_mono (PEx.next_mono (K := fun s' t' => J (trim (some l) s') t') (fun _ _ k => pkeep (h2 _ _ k)) fun _ _ _ k => k) h1)
theorem pregion {l : List POper} {Q : PEx → Slots → St → Prop} {s : Slots} {t : St} (h : pops G C l (fun x => Q .normal x.sl x.m.st) (pX s t)) : pwp G C (.region l) Q s t := h
theorem pnil {K : X → Prop} {x : X} (h : K x) : pops G C [] K x := h
theorem pnext {K : Slots → St → Prop} {Q : PEx → Slots → St → Prop} {s : Slots} {t : St} (h : K s t) : PEx.next K Q .normal s t := h
theorem pskip {Q : PEx → Slots → St → Prop} {s : Slots} {t : St} (h : Q .normal s t) : pwp G C .skip Q s t := h
theorem pcond_t {c : Arg} {a b : PCode} {Q : PEx → Slots → St → Prop} {s : Slots} {t : St} (hc : c.ev G s = .d (.bool true)) (h : pwp G C a Q s t) : pwp G C (.cond c a b) Q s t := by
  simp only [pwp, hc]; exact h
theorem pcond_f {c : Arg} {a b : PCode} {Q : PEx → Slots → St → Prop} {s : Slots} {t : St} (hc : c.ev G s = .d (.bool false)) (h : pwp G C b Q s t) : pwp G C (.cond c a b) Q s t := by
  simp only [pwp, hc]; exact h
theorem pcond {c : Arg} {a b : PCode} {Q : PEx → Slots → St → Prop} {s : Slots} {t : St} {v : Bool} (hc : c.ev G s = .d (.bool v)) (h1 : v = true → pwp G C a Q s t) (h2 : v = false → pwp G C b Q s t) : pwp G C (.cond c a b) Q s t := by
  cases v
  · exact pcond_f hc (h2 rfl)
  · exact pcond_t hc (h1 rfl)
theorem pcond_tt {c : Arg} {a b : PCode} {Q : PEx → Slots → St → Prop} {s : Slots} {t : St} (hc : c.ev G s = b2 true) (h : pwp G C a Q s t) : pwp G C (.cond c a b) Q s t := pcond_t hc h
theorem pcond_ff {c : Arg} {a b : PCode} {Q : PEx → Slots → St → Prop} {s : Slots} {t : St} (hc : c.ev G s = b2 false) (h : pwp G C b Q s t) : pwp G C (.cond c a b) Q s t := pcond_f hc h
theorem pret_ {Q : PEx → Slots → St → Prop} {s : Slots} {t : St} (h : Q .ret s t) : pwp G C .ret Q s t := h
theorem pexit_ {id : Nat} {Q : PEx → Slots → St → Prop} {s : Slots} {t : St} (h : Q (.exit id) s t) : pwp G C (.exit id) Q s t := h
theorem pnext_ret {K : Slots → St → Prop} {Q : PEx → Slots → St → Prop} {s : Slots} {t : St} (h : Q .ret s t) : PEx.next K Q .ret s t := h
theorem pnext_exit {id : Nat} {K : Slots → St → Prop} {Q : PEx → Slots → St → Prop} {s : Slots} {t : St} (h : Q (.exit id) s t) : PEx.next K Q (.exit id) s t := h
theorem pblock_ret {id : Nat} {Q : PEx → Slots → St → Prop} {s : Slots} {t : St} (h : Q .ret s t) : PEx.inBlock id Q .ret s t := h
theorem pblock_normal {id : Nat} {Q : PEx → Slots → St → Prop} {s : Slots} {t : St} (h : Q .normal s t) : PEx.inBlock id Q .normal s t := h
theorem pblock {id : Nat} {a : PCode} {Q : PEx → Slots → St → Prop} {s : Slots} {t : St} (h : pwp G C a (PEx.inBlock id Q) s t) : pwp G C (.block id a) Q s t := h
theorem pexit_in {id : Nat} {Q : PEx → Slots → St → Prop} {s : Slots} {t : St} (h : Q .normal s t) : PEx.inBlock id Q (.exit id) s t := by
  simp only [PEx.inBlock, if_true]; exact h
theorem pexit_out {id j : Nat} {Q : PEx → Slots → St → Prop} {s : Slots} {t : St} (hj : (j == id) = false) (h : Q (.exit j) s t) : PEx.inBlock id Q (.exit j) s t := by
  have : j ≠ id := by simpa using hj
  simp only [PEx.inBlock, if_neg this]; exact h

/-- One operation that looks at slots alone. -/
theorem po {po : POp} {d : Option Nat} {rest : List POper} {K : X → Prop} {s : Slots} {m : Mx} (hN : po.isN = true) {v : AV} (hv : ev G s po = some v) (h : pops G C rest K ⟨put s d v, m⟩) :
    pops G C (⟨d, po, none⟩ :: rest) K ⟨s, m⟩ := by
  rw [pops_plain]
  unfold ostep
  rw [nf_isN hN]
  exact ⟨v, hv, h⟩
/-- One that is not wanted. -/
theorem po_not {p : POp} {d : Option Nat} {t : Nat} {b c : Bool} {rest : List POper} {K : X → Prop} {s : Slots} {m : Mx} (hg : s t = .d (.bool c)) (hb : (c == b) = false) (h : pops G C rest K ⟨put s d (.tup []), m⟩) :
    pops G C (⟨d, p, some (t, b)⟩ :: rest) K ⟨s, m⟩ := by
  rw [pops_guard]
  simp only [wants, hg, hb]
  exact h
theorem po_not' {p : POp} {d : Option Nat} {t : Nat} {b : Bool} {rest : List POper} {K : X → Prop} {s : Slots} {m : Mx} (hg : s t = .tup []) (h : pops G C rest K ⟨put s d (.tup []), m⟩) :
    pops G C (⟨d, p, some (t, b)⟩ :: rest) K ⟨s, m⟩ := by
  rw [pops_guard]
  simp only [wants, hg]
  exact h
/-- One that is. -/
theorem po_yes {p : POp} {d : Option Nat} {t : Nat} {b c : Bool} {rest : List POper} {K : X → Prop} {s : Slots} {m : Mx} (hg : s t = .d (.bool c)) (hb : (c == b) = true) (h : pops G C (⟨d, p, none⟩ :: rest) K ⟨s, m⟩) :
    pops G C (⟨d, p, some (t, b)⟩ :: rest) K ⟨s, m⟩ := by
  rw [pops_guard]
  simp only [wants, hg, hb]
  exact h
theorem po_yt {p : POp} {d : Option Nat} {t : Nat} {rest : List POper} {K : X → Prop} {s : Slots} {m : Mx} (hg : s t = b2 true) (h : pops G C (⟨d, p, none⟩ :: rest) K ⟨s, m⟩) : pops G C (⟨d, p, some (t, true)⟩ :: rest) K ⟨s, m⟩ := po_yes hg rfl h
theorem po_yf {p : POp} {d : Option Nat} {t : Nat} {rest : List POper} {K : X → Prop} {s : Slots} {m : Mx} (hg : s t = b2 false) (h : pops G C (⟨d, p, none⟩ :: rest) K ⟨s, m⟩) : pops G C (⟨d, p, some (t, false)⟩ :: rest) K ⟨s, m⟩ := po_yes hg rfl h
theorem po_nt {p : POp} {d : Option Nat} {t : Nat} {rest : List POper} {K : X → Prop} {s : Slots} {m : Mx} (hg : s t = b2 false) (h : pops G C rest K ⟨put s d (.tup []), m⟩) : pops G C (⟨d, p, some (t, true)⟩ :: rest) K ⟨s, m⟩ := po_not hg rfl h
theorem po_nf {p : POp} {d : Option Nat} {t : Nat} {rest : List POper} {K : X → Prop} {s : Slots} {m : Mx} (hg : s t = b2 true) (h : pops G C rest K ⟨put s d (.tup []), m⟩) : pops G C (⟨d, p, some (t, false)⟩ :: rest) K ⟨s, m⟩ := po_not hg rfl h
theorem po_movt {n : Nat} {d : Option Nat} {rest : List POper} {K : X → Prop} {s : Slots} {m : Mx} (h : pops G C rest K ⟨put s d (s n), m⟩) : pops G C (⟨d, .mov (.t n), none⟩ :: rest) K ⟨s, m⟩ := po rfl rfl h
theorem po_movc {v : AV} {d : Option Nat} {rest : List POper} {K : X → Prop} {s : Slots} {m : Mx} (h : pops G C rest K ⟨put s d v, m⟩) : pops G C (⟨d, .mov (.c v), none⟩ :: rest) K ⟨s, m⟩ := po rfl rfl h
theorem po_ext {x : Arg} {n : Nat} {d : Option Nat} {rest : List POper} {K : X → Prop} {s : Slots} {m : Mx} {vs : List AV} (hx : x.ev G s = .tup vs) {v : AV} (hv : vs[n]? = some v) (h : pops G C rest K ⟨put s d v, m⟩) : pops G C (⟨d, .ext x n, none⟩ :: rest) K ⟨s, m⟩ := po rfl (by simp only [ev, hx, hv]) h
theorem po_len {x : Arg} {d : Option Nat} {rest : List POper} {K : X → Prop} {s : Slots} {m : Mx} {v : AV} (hx : x.ev G s = v) {rows : List (List Dat)} (hr : v.rows? = some rows) {n : Nat} (hn : rows.length = n) (h : pops G C rest K ⟨put s d (i64 n), m⟩) :
    pops G C (⟨d, .len x, none⟩ :: rest) K ⟨s, m⟩ := by
  refine po rfl ?_ h
  simp only [ev, hx]
  cases v <;> simp only [AV.rows?] at hr <;> (try (cases hr; done)) <;> simp [AV.rows?, hr, hn]
theorem po_callH {f : FuncId} {args : List Arg} {d : Option Nat} {rest : List POper} {K : X → Prop} {s : Slots} {m : Mx} {as : List AV} (hargs : (args.map fun (p : Arg) => p.ev G s).map AV.weak = as) {v : AV}
    (hc : Pure C f as v) (hh : m.holds m.st) (h : pops G C rest K ⟨put s d v, m.past m.st⟩) : pops G C (⟨d, .call f args, none⟩ :: rest) K ⟨s, m⟩ := by
  rw [pops_plain]
  unfold ostep
  simp only [nf, hargs]
  exact ⟨_, hc m.st, ⟨v, m.st, rfl, rfl⟩, fun r st' hr => by obtain ⟨rfl, rfl⟩ := hr; exact ⟨hh, h⟩⟩
theorem po_call {f : FuncId} {args : List Arg} {d : Option Nat} {rest : List POper} {K : X → Prop} {s : Slots} {m : Mx} {as : List AV} (hargs : (args.map fun (p : Arg) => p.ev G s).map AV.weak = as) {v : AV}
    (hc : Pure C f as v) (_ : ∀ b cells, False → m.st.box b = some cells) (h : pops G C rest K ⟨put s d v, m⟩) : pops G C (⟨d, .call0 f args, none⟩ :: rest) K ⟨s, m⟩ := by
  rw [pops_plain]
  unfold ostep
  simp only [nf, hargs]
  exact ⟨_, hc m.st, fun _ hL => ⟨v, m.st, ⟨rfl, rfl⟩, hL⟩, fun r st' hr => by obtain ⟨rfl, rfl⟩ := hr; exact h⟩
theorem po_callp {f : FuncId} {args : List Arg} {d : Option Nat} {rest : List POper} {K : X → Prop} {s : Slots} {m : Mx} {as : List AV} (hargs : (args.map fun (p : Arg) => p.ev G s).map AV.weak = as) {v : AV}
    (hc : Pure C f as v) (h : pops G C rest K ⟨put s d v, m⟩) : pops G C (⟨d, .callp f args, none⟩ :: rest) K ⟨s, m⟩ := by
  rw [pops_plain]
  unfold ostep
  simp only [nf, hargs]
  exact ⟨fun r => r = v, hc m.st, ⟨v, rfl⟩, fun r hr => by subst hr; exact h⟩
theorem po_load {ag : Bool} {sz : Nat} {x : Arg} {d : Option Nat} {rest : List POper} {K : X → Prop} {s : Slots} {m : Mx} {b o : Nat} (hx : x.ev G s = .d (.ptr b o)) {cells : List AV} (hb : m.st.box b = some cells) {v : AV}
    (hv : ldv ag sz (cells.drop o) = some v) (h : pops G C rest K ⟨put s d v, m⟩) : pops G C (⟨d, .load ag sz x false, none⟩ :: rest) K ⟨s, m⟩ := by
  rw [pops_plain]
  unfold ostep
  simp only [nf, hx]
  exact ⟨cells, hb, v, hv, h⟩
theorem po_loadE {ag st : Bool} {sz : Nat} {x : Arg} {d : Option Nat} {rest : List POper} {K : X → Prop} {s : Slots} {m : Mx} {cells : List Dat} (hx : x.ev G s = .elt cells) {v : AV}
    (hv : ldv ag sz (cells.map .d) = some v) (h : pops G C rest K ⟨put s d v, m⟩) : pops G C (⟨d, .load ag sz x st, none⟩ :: rest) K ⟨s, m⟩ := by
  rw [pops_plain]
  unfold ostep
  simp only [nf, hx]
  exact ⟨v, hv, h⟩
theorem po_box {sz : Nat} {x : Arg} {d : Option Nat} {rest : List POper} {K : X → Prop} {s : Slots} {m : Mx} {cells : List AV} (hx : (x.ev G s).cells = cells) (hl : (cells.length == sz) = true)
    (h : ∀ b, m.st.fresh b → pops G C rest K ⟨put s d (ptrAt b), m.setSt (m.st.setBox b cells)⟩) : pops G C (⟨d, .box sz x, none⟩ :: rest) K ⟨s, m⟩ := by
  rw [pops_plain]
  unfold ostep
  simp only [nf, hx]
  exact ⟨hl, h⟩
theorem po_alloc {z : List AV} {d : Option Nat} {rest : List POper} {K : X → Prop} {s : Slots} {m : Mx}
    (h : ∀ b, m.st.fresh b → pops G C rest K ⟨put s d (ptrAt b), m.setSt (m.st.setBox b z)⟩) : pops G C (⟨d, .alloc z, none⟩ :: rest) K ⟨s, m⟩ := ⟨rfl, h⟩
theorem po_store {sz : Nat} {x y : Arg} {d : Option Nat} {rest : List POper} {K : X → Prop} {s : Slots} {m : Mx} {b o : Nat} (hx : x.ev G s = .d (.ptr b o)) {cs : List AV} (hy : (y.ev G s).cells = cs) {cells : List AV}
    (hb : m.st.box b = some cells) (hl : cs.length = sz ∧ cs.all AV.sc = true) (ho : o + sz ≤ cells.length) {out : List AV} (hout : cells.take o ++ cs ++ cells.drop (o + sz) = out) (hh : m.holds (m.st.setBox b out))
    (h : pops G C rest K ⟨put s d .undef, m.past (m.st.setBox b out)⟩) : pops G C (⟨d, .store sz x y, none⟩ :: rest) K ⟨s, m⟩ := by
  rw [pops_plain]
  unfold ostep
  subst hout
  subst hy
  simp only [nf, hx]
  exact ⟨cells, hb, hl, ho, hh, h⟩

theorem pfin_ret {rs : List PRes} {R : AV → St → Prop} {s : Slots} {t : St} (h : ∃ r r' st', pret rs s t = some r ∧ (r' = r ∨ r' = r.weak) ∧ st'.le t ∧ R r' st') : pfin rs R .ret s t := h
/-- It ends with the state as it was, and this. -/
theorem pfin_pure {rs : List PRes} {s : Slots} {t st : St} {v : AV} (h : pret rs s t = some v) (ht : st.le t) : pfin rs (fun r st' => st' = st ∧ r = v) .ret s t := ⟨v, v, st, h, .inl rfl, ht, rfl, rfl⟩
theorem pfin_weak {rs : List PRes} {s : Slots} {t st : St} {u v : AV} (h : pret rs s t = some u) (hw : u.weak = v) (ht : st.le t) : pfin rs (fun r st' => st' = st ∧ r = v) .ret s t := ⟨u, v, st, h, .inr hw.symm, ht, rfl, rfl⟩

/-- A loop over numbers from 0. -/
theorem prange' {keep : Option (List Nat)} {id ti tc tx : Nat} {bnd : Arg} {body : PCode} {Q : PEx → Slots → St → Prop} {s : Slots} {t : St} (n : Nat) (hn : n < 2 ^ 63) (J : Nat → Slots → St → Prop)
    (h0 : J 0 (trim keep s) t) (hi : ∀ k s t, k ≤ n → J k s t → s ti = i64 k) (hl : ∀ k s t, k ≤ n → J k s t → bnd.ev G s = i64 n)
    (hend : ∀ s t, J n s t → Q .normal (put s (some tc) (b2 false)) t)
    (hstep : ∀ k, k < n → ∀ s t, J k s t → pwp G C body (PEx.next (fun s' t' => s' ti = i64 k ∧ J (k + 1) (trim keep (put (put s' (some tx) (i64 ((k + 1 : Nat) : Int))) (some ti) (i64 ((k + 1 : Nat) : Int)))) t') (PEx.inBlock id Q)) (put s (some tc) (b2 true)) t) :
    pwp G C (.block id (.loop keep (.seq (.region [⟨some tc, .bin .lss (.t ti) bnd, none⟩]) (.seq (.cond (.t tc) .skip (.exit id)) (.seq body (.region [⟨some tx, .bin .add (.t ti) (.c (.d (.int .i64 1))), none⟩, ⟨some ti, .mov (.t tx), none⟩])))))) Q s t := by
  refine ⟨n + 1, ?_⟩
  have key : ∀ j k, n - k = j → k ≤ n → ∀ s t, J k (trim keep s) t → prounds (fun Q s t => pwp G C (.seq (.region [⟨some tc, .bin .lss (.t ti) bnd, none⟩]) (.seq (.cond (.t tc) .skip (.exit id)) (.seq body (.region [⟨some tx, .bin .add (.t ti) (.c (.d (.int .i64 1))), none⟩, ⟨some ti, .mov (.t tx), none⟩])))) Q (trim keep s) t) (PEx.inBlock id Q) (j + 1) s t := by
    intro j
    induction j with
    | zero =>
      intro k hj hk s t hs
      obtain rfl : k = n := by omega
      show pops G C _ _ (pX (trim keep s) t)
      generalize trim keep s = s at hs
      refine po rfl (v := b2 false) ?_ (pnil (pnext (pseq (pcond_f (by simp [Arg.ev, put, b2]) ?_))))
      · simp only [ev, hl k s t hk hs]
        simp [Arg.ev, hi k s t hk hs, binEv, intBin, i64]
      · exact pexit_in (hend _ _ hs)
    | succ j ih =>
      intro k hj hk s t hs
      have hlt : k < n := by omega
      show pops G C _ _ (pX (trim keep s) t)
      generalize trim keep s = s at hs
      refine po rfl (v := b2 true) ?_ (pnil (pnext (pseq (pcond_t (by simp [Arg.ev, put, b2]) (pskip (pnext (pseq ?_)))))))
      · simp only [ev, hl k s t hk hs]
        simp [Arg.ev, hi k s t hk hs, binEv, intBin, i64, hlt]
      · refine pwp_mono ?_ (hstep k hlt s t hs)
        rintro e s' t' he
        cases e with
        | normal =>
          obtain ⟨h1, h2⟩ := he
          have hw : IntKind.i64.wrap ((k : Int) + 1) = ((k + 1 : Nat) : Int) := IntWalk.i64_in _ (by omega)
          refine pnext (pregion (po rfl (v := i64 ((k + 1 : Nat) : Int)) ?_ (po rfl (v := i64 ((k + 1 : Nat) : Int)) ?_ (pnil (pnext ?_)))))
          · simp only [ev, Arg.ev, h1, binEv, i64, intBin, hw]
            simp
          · simp [ev, Arg.ev, put]
          · exact ih (k + 1) (by omega) (by omega) _ _ h2
        | exit j => exact he
        | ret => exact he
  exact key n 0 rfl (Nat.zero_le _) s t h0

theorem prange {keep : Option (List Nat)} {id ti tc tx : Nat} {bnd : Arg} {body : PCode} {Q : PEx → Slots → St → Prop} {s : Slots} {t : St} (n : Nat) (hn : n < 2 ^ 63) (S : Nat → Slots) (T : Nat → St) (I : Nat → Prop) (hI : I 0)
    (h0 : trim keep s = S 0) (ht : t = T 0) (hi : ∀ k, S k ti = i64 k) (hl : ∀ k, bnd.ev G (S k) = i64 n)
    (hend : I n → Q .normal (put (S n) (some tc) (b2 false)) (T n)) 
    (hstep : ∀ k, k < n → I k → pwp G C body (PEx.next (fun s' t' => I (k + 1) ∧ t' = T (k + 1) ∧ s' ti = i64 k ∧ trim keep (put (put s' (some tx) (i64 ((k + 1 : Nat) : Int))) (some ti) (i64 ((k + 1 : Nat) : Int))) = S (k + 1)) (PEx.inBlock id Q)) (put (S k) (some tc) (b2 true)) (T k)) :
    pwp G C (.block id (.loop keep (.seq (.region [⟨some tc, .bin .lss (.t ti) bnd, none⟩]) (.seq (.cond (.t tc) .skip (.exit id)) (.seq body (.region [⟨some tx, .bin .add (.t ti) (.c (.d (.int .i64 1))), none⟩, ⟨some ti, .mov (.t tx), none⟩])))))) Q s t := by
  refine prange' n hn (fun k s t => s = S k ∧ t = T k ∧ I k) ⟨h0, ht, hI⟩ (fun k s t _ h => by rw [h.1]; exact hi k) (fun k s t _ h => by rw [h.1]; exact hl k) ?_ ?_
  · rintro s t ⟨rfl, rfl, h⟩; exact hend h
  · rintro k hk s t ⟨rfl, rfl, h⟩
    refine pwp_mono ?_ (hstep k hk h)
    rintro e s' t' he
    cases e with
    | normal => exact ⟨he.2.2.1, he.2.2.2, he.2.1, he.1⟩
    | exit j => exact he
    | ret => exact he

theorem St.dropTok_setTok {s : St} {b : Nat} (k : Tok) (h : s.tok b = none) : (s.setTok b k).dropTok b = s := by
  refine St.ext' rfl (funext fun c => ?_)
  simp only [St.tok_dropTok, St.tok_setTok]
  split
  · rename_i e; rw [e, h]
  · rfl
theorem St.setTok_setTok {s : St} {b : Nat} (k j : Tok) : (s.setTok b k).setTok b j = s.setTok b j := by
  refine St.ext' rfl (funext fun c => ?_)
  simp only [St.tok_setTok]
  split <;> rfl

theorem fresh_ne {s : St} {b c : Nat} {l : List AV} (h : (s.setBox b l).fresh c) : b ≠ c := by
  intro e
  have := h.1
  rw [St.box_setBox, if_pos e.symm] at this
  cases this

theorem pres_cell {s : Slots} {t : St} {a : Nat} {ag : Bool} {sz b o : Nat} {cells : List AV} {v : AV} (ha : s a = .d (.ptr b o)) (hb : t.box b = some cells) (hv : ldv ag sz (cells.drop o) = some v) : PRes.ev s t (.cell a ag sz) = some v := by
  simp only [PRes.ev, ha, hb, Option.bind_some]; exact hv
theorem pret_one {s : Slots} {t : St} {r1 : PRes} {v1 : AV} (h1 : r1.ev s t = some v1) : pret [r1] s t = some v1 := by simp [pret, h1, pret1]
theorem pret_two {s : Slots} {t : St} {r1 r2 : PRes} {v1 v2 : AV} (h1 : r1.ev s t = some v1) (h2 : r2.ev s t = some v2) : pret [r1, r2] s t = some (.tup [v1, v2]) := by simp [pret, h1, h2, pret1]
theorem pret_three {s : Slots} {t : St} {r1 r2 r3 : PRes} {v1 v2 v3 : AV} (h1 : r1.ev s t = some v1) (h2 : r2.ev s t = some v2) (h3 : r3.ev s t = some v3) : pret [r1, r2, r3] s t = some (.tup [v1, v2, v3]) := by simp [pret, h1, h2, h3, pret1]

/-- A list that is being built, beside a state. -/
def Vec (st t : St) (v : AV) (rows : List (List Dat)) (sz : Nat) : Prop :=
  (v = .full rows ∧ t = st) ∨ ∃ b cap, v = .own b rows cap ∧ st.fresh b ∧ t = st.setTok b ⟨rows.length, cap, sz⟩
theorem Vec.le {st t : St} {v : AV} {rows : List (List Dat)} {sz : Nat} (h : Vec st t v rows sz) : st.le t := by
  rcases h with ⟨_, rfl⟩ | ⟨b, cap, _, hb, rfl⟩
  · exact .refl _
  · exact (St.le.refl _).setTok _ hb.2
theorem Vec.weak {st t : St} {v : AV} {rows : List (List Dat)} {sz : Nat} (h : Vec st t v rows sz) : v.weak = .d (.sl rows) := by
  rcases h with ⟨rfl, _⟩ | ⟨b, cap, rfl, _, _⟩ <;> rfl
theorem Vec.rows {st t : St} {v : AV} {rows : List (List Dat)} {sz : Nat} (h : Vec st t v rows sz) : v.rows? = some rows := by
  rcases h with ⟨rfl, _⟩ | ⟨b, cap, rfl, _, _⟩ <;> rfl
theorem Vec.dat {st t : St} {v : AV} {rows : List (List Dat)} {sz : Nat} (h : Vec st t v rows sz) : v.dat? = some (.sl rows) := by
  rcases h with ⟨rfl, _⟩ | ⟨b, cap, rfl, _, _⟩ <;> rfl

theorem po_app {sz bytes : Nat} {x y : Arg} {d : Option Nat} {rest : List POper} {K : X → Prop} {s : Slots} {m : Mx} {st : St} {v : AV} {rows news : List (List Dat)} (hx : x.ev G s = v) (hv : Vec st m.st v rows sz) (hy : (y.ev G s).rows? = some news)
    (hr : ∀ r ∈ rows, r.length = sz) (hn : ∀ r ∈ news, r.length = sz) (hfit : (rows.length + news.length) * bytes ≤ 140737488355328)
    (h : ∀ v' t', Vec st t' v' (rows ++ news) sz → pops G C rest K ⟨put s d v', m.setSt t'⟩) : pops G C (⟨d, .app sz bytes x y, none⟩ :: rest) K ⟨s, m⟩ := by
  rw [pops_plain]
  unfold ostep
  simp only [nf, hx, hy]
  refine ⟨hn, ?_⟩
  rcases hv with ⟨rfl, e⟩ | ⟨b, cap, rfl, hb, e⟩
  · refine ⟨hr, hfit, ?_⟩
    split
    · rename_i hne
      subst hne
      rw [List.append_nil] at h
      exact h _ m.st (.inl ⟨rfl, e⟩)
    · intro b cap hfb
      rw [e] at hfb ⊢
      refine h _ _ (.inr ⟨b, cap, rfl, hfb, ?_⟩)
      rw [List.length_append]
  · refine ⟨by rw [e]; simp, hr, hfit, ?_, ?_⟩
    · rw [e, St.setTok_setTok]
      refine h _ _ (.inr ⟨b, cap, rfl, hb, ?_⟩)
      rw [List.length_append]
    · intro b' cap' hfb
      rw [e] at hfb ⊢
      rw [St.dropTok_setTok _ hb.2]
      refine h _ _ (.inr ⟨b', cap', rfl, ?_, ?_⟩)
      · refine ⟨hfb.1, ?_⟩
        have := hfb.2
        rw [St.tok_setTok] at this
        split at this
        · cases this
        · exact this
      · rw [List.length_append]

end
end Go.Pv
