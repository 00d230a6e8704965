/- Operations that run under a condition that nobody knows yet. No condition. -/
import Derived.Test.YtmkfohiocklkoaaDoorP23
namespace Go.Pv

/-- A value that is there if 'c'. -/
def gd (c : Bool) (v : AV) : AV := match c with | true => v | false => .tup []
theorem gd_true (v : AV) : gd true v = v := rfl
/-- Whether an operation runs. -/
def GW (s : Slots) (t : Nat) (b w : Bool) : Prop := wants s (some (t, b)) = some w
theorem wt0 {s : Slots} {t : Nat} {p : Bool} (h : s t = b2 p) : GW s t true p := by simp only [GW, wants, h, b2]; cases p <;> rfl
theorem wf0 {s : Slots} {t : Nat} {p : Bool} (h : s t = b2 p) : GW s t false (!p) := by simp only [GW, wants, h, b2]; cases p <;> rfl
theorem wt1 {s : Slots} {t : Nat} {c p : Bool} (h : s t = gd c (b2 p)) : GW s t true (c && p) := by cases c <;> cases p <;> simp [GW, wants, h, gd, b2]
theorem wf1 {s : Slots} {t : Nat} {c p : Bool} (h : s t = gd c (b2 p)) : GW s t false (c && !p) := by cases c <;> cases p <;> simp [GW, wants, h, gd, b2]

section
variable {G : Glob} {C : CallsP}
/-- What an operation gives, where it turns nothing. -/
def Does (G : Glob) (C : CallsP) (s : Slots) (m : Mx) (po : POp) (v : AV) : Prop := ∀ d rest K, pops G C rest K ⟨put s d v, m⟩ → pops G C (⟨d, po, none⟩ :: rest) K ⟨s, m⟩
theorem does_N {s : Slots} {m : Mx} {o : POp} {v : AV} (hN : o.isN = true) (hv : ev G s o = some v) : Does G C s m o v := fun _ _ _ k => po hN hv k
theorem does_load {s : Slots} {m : Mx} {ag : Bool} {sz : Nat} {x : Arg} {b o : Nat} {cells : List AV} {v : AV} (hx : x.ev G s = .d (.ptr b o)) (hb : m.st.box b = some cells) (hv : ldv ag sz (cells.drop o) = some v) : Does G C s m (.load ag sz x false) v := fun _ _ _ k => po_load hx hb hv k
theorem does_loadE {s : Slots} {m : Mx} {ag st : Bool} {sz : Nat} {x : Arg} {cells : List Dat} {v : AV} (hx : x.ev G s = .elt cells) (hv : ldv ag sz (cells.map .d) = some v) : Does G C s m (.load ag sz x st) v := fun _ _ _ k => po_loadE hx hv k
theorem does_lenM {α : Type} {f : α → List Dat} {s : Slots} {m : Mx} {x : Arg} {l : List α} (hx : x.ev G s = .d (.sl (l.map f))) : Does G C s m (.len x) (i64 l.length) := fun _ _ _ k => po_lenM hx k
theorem does_callp {s : Slots} {m : Mx} {f : FuncId} {args : List Arg} {as : List AV} {v : AV} (hargs : (args.map fun (p : Arg) => p.ev G s).map AV.weak = as) (hc : Pure C f as v) : Does G C s m (.callp f args) v := fun _ _ _ k => po_callp hargs hc k

theorem po_g {o : POp} {d : Option Nat} {t : Nat} {b w : Bool} {v : AV} {rest : List POper} {K : X → Prop} {s : Slots} {m : Mx} (hw : GW s t b w) (h1 : w = true → Does G C s m o v) (h : pops G C rest K ⟨put s d (gd w v), m⟩) :
    pops G C (⟨d, o, some (t, b)⟩ :: rest) K ⟨s, m⟩ := by
  rw [pops_guard]
  unfold GW at hw
  rw [hw]
  cases w with
  | true => exact h1 rfl d rest K h
  | false => exact h
theorem pcond_b {c : Arg} {a b : PCode} {Q : PEx → Slots → St → Prop} {s : Slots} {t : St} {p : Bool} (hc : c.ev G s = b2 p) (h1 : p = true → pwp G C a Q s t) (h2 : p = false → pwp G C b Q s t) : pwp G C (.cond c a b) Q s t := pcond hc h1 h2

/-- What a condition that holds says. -/
theorem pvw : (∀ a b : Bool, ((a && b) = true) = (a = true ∧ b = true)) ∧ (∀ b : Bool, ((!b) = true) = (b = false)) := ⟨fun a b => by simp, fun b => by simp⟩
/-- How conditional values are read. -/
theorem pvg : (∀ v : AV, gd true v = v) ∧ (∀ v : AV, gd false v = .tup []) ∧ (∀ (p : Bool) (a b : AV), (if p = true then gd p a else b) = if p = true then a else b) ∧ (∀ (p : Bool) (a b : AV), (if p = true then a else gd (!p) b) = if p = true then a else b) ∧
    (∀ (p : Bool) (a b : AV), (if (!p) = true then a else b) = if p = true then b else a) ∧ (∀ (p q : Bool), (if p = true then AV.d (.bool q) else AV.d (.bool false)) = AV.d (.bool (p && q))) ∧ (∀ (p q : Bool), (if p = true then AV.d (.bool true) else AV.d (.bool q)) = AV.d (.bool (p || q))) ∧
    (∀ (c p : Bool) (a b : AV), (if (c && p) = true then gd (c && p) a else b) = if (c && p) = true then a else b) ∧ (∀ p : Bool, (!!p) = p) ∧ (∀ (p q : Bool), (if p = true then AV.d (.bool q) else AV.d (.bool true)) = AV.d (.bool (!p || q))) ∧ (∀ (p q : Bool), (if p = true then AV.d (.bool false) else AV.d (.bool q)) = AV.d (.bool (!p && q))) :=
  ⟨fun _ => rfl, fun _ => rfl, fun p _ _ => by cases p <;> rfl, fun p _ _ => by cases p <;> rfl, fun p _ _ => by cases p <;> rfl, fun p _ => by cases p <;> rfl, fun p _ => by cases p <;> rfl, fun c p _ _ => by cases c <;> cases p <;> rfl, fun p => by cases p <;> rfl, fun p _ => by cases p <;> rfl, fun p _ => by cases p <;> rfl⟩
theorem pvc : (((∀ (G : Glob) (s : Slots) (n : Nat), (Arg.t n).ev G s = s n) ∧ (∀ (G : Glob) (s : Slots) (v : AV), (Arg.c v).ev G s = v) ∧ (∀ (s : Slots) (t : Nat) (v : AV), put s (some t) v t = v) ∧
    (∀ (s : Slots) (t u : Nat) (v : AV), u ≠ t → put s (some t) v u = s u) ∧ (∀ (s : Slots) (v : AV), put s none v = s) ∧ (∀ (m : Mx) (t : St), (m.setSt t).st = t) ∧ (∀ (m : Mx) (t : St), (m.past t).st = t) ∧
    (∀ (s : Slots) (t : St), (pX s t).sl = s) ∧ (∀ (s : Slots) (t : St), (pX s t).m.st = t) ∧ (∀ b : Bool, b2 b = .d (.bool b)) ∧ (!true) = false ∧ (!false) = true ∧ (∀ (i : Decidable True) (a b : AV), @ite AV True i a b = a) ∧ (∀ (i : Decidable False) (a b : AV), @ite AV False i a b = b) ∧
    (∀ (i : Decidable True) (a b : Bool), @ite Bool True i a b = a) ∧ (∀ (i : Decidable False) (a b : Bool), @ite Bool False i a b = b) ∧ (false = true) = False ∧ (true == true) = true ∧ (true == false) = false ∧ (false == true) = false ∧ (false == false) = true ∧ (∀ b : Bool, (b || true) = true) ∧ (∀ b : Bool, (b || false) = b) ∧ (∀ b : Bool, (true || b) = true) ∧ (∀ b : Bool, (false || b) = b) ∧ (∀ b : Bool, (b && true) = b) ∧ (∀ b : Bool, (b && false) = false) ∧ (∀ b : Bool, (true && b) = b) ∧ (∀ b : Bool, (false && b) = false) ∧ (∀ a : Int, (a == a) = true)) ∧
    ((∀ (x : Dat), (AV.d x).cells = [.d x]) ∧ (∀ (l : List AV), (AV.agg l).cells = l) ∧ (∀ (l : List (List Dat)), (AV.full l).cells = [.full l]) ∧ (∀ (l : List AV), List.take 0 l = []) ∧ (∀ (n : Nat) (x : AV) (l : List AV), List.take (n + 1) (x :: l) = x :: List.take n l) ∧
    (∀ (n : Nat), List.take n ([] : List AV) = []) ∧ (∀ (n : Nat), List.drop n ([] : List AV) = []) ∧ (∀ (l : List AV), List.drop 0 l = l) ∧ (∀ (n : Nat) (x : AV) (l : List AV), List.drop (n + 1) (x :: l) = List.drop n l) ∧
    (∀ (l : List AV), [] ++ l = l) ∧ (∀ (x : AV) (k l : List AV), (x :: k) ++ l = x :: (k ++ l)) ∧ (∀ (s : St) (b : Nat) (l k : List AV), (s.setBox b l).setBox b k = s.setBox b k) ∧
    (∀ (x : AV) (l : List AV), pinit (x :: l) 0 = x) ∧ (∀ (x : AV) (l : List AV) (n : Nat), pinit (x :: l) (n + 1) = pinit l n) ∧ (∀ n : Nat, 0 + n = n) ∧ (∀ n : Nat, n + 0 = n) ∧ (∀ i : Decidable True, @decide True i = true) ∧ (∀ i : Decidable False, @decide False i = false))) ∧
    ((∀ v : AV, gd true v = v) ∧ (∀ v : AV, gd false v = .tup []) ∧ (∀ (p : Bool) (a b : AV), (if p = true then gd p a else b) = if p = true then a else b) ∧ (∀ (p : Bool) (a b : AV), (if p = true then a else gd (!p) b) = if p = true then a else b) ∧
    (∀ (p : Bool) (a b : AV), (if (!p) = true then a else b) = if p = true then b else a) ∧ (∀ (p q : Bool), (if p = true then AV.d (.bool q) else AV.d (.bool false)) = AV.d (.bool (p && q))) ∧ (∀ (p q : Bool), (if p = true then AV.d (.bool true) else AV.d (.bool q)) = AV.d (.bool (p || q))) ∧
    (∀ (c p : Bool) (a b : AV), (if (c && p) = true then gd (c && p) a else b) = if (c && p) = true then a else b) ∧ (∀ p : Bool, (!!p) = p) ∧ (∀ (p q : Bool), (if p = true then AV.d (.bool q) else AV.d (.bool true)) = AV.d (.bool (!p || q))) ∧ (∀ (p q : Bool), (if p = true then AV.d (.bool false) else AV.d (.bool q)) = AV.d (.bool (!p && q)))) := ⟨pvb, pvg⟩
theorem po_pickS {c a b : Arg} {d : Option Nat} {rest : List POper} {K : X → Prop} {s : Slots} {m : Mx} {v : AV} (hv : ev G s (.pick c a b) = some v) (h : pops G C rest K ⟨put s d v, m⟩) : pops G C (⟨d, .pick c a b, none⟩ :: rest) K ⟨s, m⟩ := po rfl hv h
end
end Go.Pv
