/- More rules to run code by value. No condition. -/
import Derived.Test.YtdggkhnelmonkaaDoorP20
namespace Go.Pv

/-- A loop over no numbers. -/
theorem pzero {G : Glob} {C : CallsP} {keep : Option (List Nat)} {id ti tc tx : Nat} {bnd : Arg} {body : PCode} {Q : PEx → Slots → St → Prop} {s : Slots} {t : St} (hi : trim keep s ti = i64 0) (hl : bnd.ev G (trim keep s) = i64 0)
    (h : Q .normal (put (trim keep s) (some tc) (b2 false)) t) :
    pwp G C (.block id (.loop keep (.seq (.region [⟨some tc, .bin .lss (.t ti) bnd, none⟩]) (.seq (.cond (.t tc) .skip (.exit id)) (.seq body (.region [⟨some tx, .bin .add (.t ti) (.c (.d (.int .i64 1))), none⟩, ⟨some ti, .mov (.t tx), none⟩])))))) Q s t := by
  refine prange' 0 (by decide) (fun _ s' t' => s' = trim keep s ∧ t' = t) ⟨rfl, rfl⟩ ?_ ?_ ?_ ?_
  · rintro k s' t' hk ⟨rfl, rfl⟩
    obtain rfl : k = 0 := by omega
    exact hi
  · rintro k s' t' hk ⟨rfl, rfl⟩; exact hl
  · rintro s' t' ⟨rfl, rfl⟩; exact h
  · intro k hk; omega

theorem St.setBox_setBox (s : St) (b : Nat) (l k : List AV) : (s.setBox b l).setBox b k = s.setBox b k := by
  refine St.ext' (funext fun c => ?_) rfl
  simp only [St.box_setBox]
  split <;> rfl
theorem fresh_under {s : St} {b c : Nat} {l : List AV} (h : (s.setBox b l).fresh c) : s.fresh c := by
  refine ⟨?_, h.2⟩
  have := h.1
  rwa [St.box_setBox, if_neg (fun e => fresh_ne h e.symm)] at this

/-- How cells are read. -/
theorem pvn : (∀ (x : Dat), (AV.d x).cells = [.d x]) ∧ (∀ (l : List AV), (AV.agg l).cells = l) ∧ (∀ (l : List (List Dat)), (AV.full l).cells = [.full l]) ∧ (∀ (l : List AV), List.take 0 l = []) ∧ (∀ (n : Nat) (x : AV) (l : List AV), List.take (n + 1) (x :: l) = x :: List.take n l) ∧
    (∀ (n : Nat), List.take n ([] : List AV) = []) ∧ (∀ (n : Nat), List.drop n ([] : List AV) = []) ∧ (∀ (l : List AV), List.drop 0 l = l) ∧ (∀ (n : Nat) (x : AV) (l : List AV), List.drop (n + 1) (x :: l) = List.drop n l) ∧
    (∀ (l : List AV), [] ++ l = l) ∧ (∀ (x : AV) (k l : List AV), (x :: k) ++ l = x :: (k ++ l)) ∧ (∀ (s : St) (b : Nat) (l k : List AV), (s.setBox b l).setBox b k = s.setBox b k) ∧
    (∀ (x : AV) (l : List AV), pinit (x :: l) 0 = x) ∧ (∀ (x : AV) (l : List AV) (n : Nat), pinit (x :: l) (n + 1) = pinit l n) ∧ (∀ n : Nat, 0 + n = n) ∧ (∀ n : Nat, n + 0 = n) ∧ (∀ i : Decidable True, @decide True i = true) ∧ (∀ i : Decidable False, @decide False i = false) :=
  ⟨fun _ => rfl, fun _ => rfl, fun _ => rfl, fun _ => rfl, fun _ _ _ => rfl, fun _ => List.take_nil, fun _ => List.drop_nil, fun _ => rfl, fun _ _ _ => rfl, fun _ => rfl, fun _ _ _ => rfl, St.setBox_setBox, fun _ _ => rfl, fun _ _ _ => rfl, Nat.zero_add, fun _ => rfl, fun _ => decide_eq_true trivial, fun _ => decide_eq_false id⟩
/-- The byte at a place. -/
def byteAt (s : ByteArray) (i : Nat) : Int := ((s.toList.getD i 0).toNat : Int)
theorem idx_byte {x : ByteArray} {i : Nat} (hi : i < x.size) : (x[i]?).map (fun b : UInt8 => AV.d (.int .u8 b.toNat)) = some (.d (.int .u8 (byteAt x i))) := by
  have h : x.toList.getD i 0 = x[i] := by
    rw [ByteArray.toList_eq, List.getD_eq_getElem?_getD]
    have : i < x.data.toList.length := by simpa using hi
    rw [List.getElem?_eq_getElem this]
    rfl
  rw [getElem?_pos x i hi, Option.map_some]
  simp only [byteAt, h]
theorem po_idxS {G : Glob} {C : CallsP} {a b : Arg} {d : Option Nat} {rest : List POper} {K : X → Prop} {s : Slots} {m : Mx} {x : ByteArray} {k : Nat} (ha : a.ev G s = .d (.str x)) (hb : b.ev G s = i64 k) (hk : k < x.size)
    (h : pops G C rest K ⟨put s d (.d (.int .u8 (byteAt x k))), m⟩) : pops G C (⟨d, .idxS a b, none⟩ :: rest) K ⟨s, m⟩ :=
  po rfl (by
    simp only [ev, ha, hb, i64]
    rw [if_pos (Int.natCast_nonneg k), Int.toNat_natCast]
    exact idx_byte hk) h
/-- One step of a row. -/
theorem iaddr_rows {G : Glob} {s : Slots} {a b : Arg} {v : AV} {rows : List (List Dat)} {k sz : Nat} (ha : a.ev G s = v) (hv : v.rows? = some rows) (hb : b.ev G s = i64 k) (hk : k < rows.length) (hs : rows[k].length = sz) : ev G s (.iaddr sz a b) = some (.elt rows[k]) := by
  simp only [ev, ha, hb]
  cases v <;> simp only [AV.rows?] at hv <;> (try (cases hv; done)) <;> simp [AV.rows?, hv, i64, hk, hs]
theorem po_lenM {G : Glob} {C : CallsP} {α : Type} {f : α → List Dat} {x : Arg} {d : Option Nat} {rest : List POper} {K : X → Prop} {s : Slots} {m : Mx} {l : List α} (hx : x.ev G s = .d (.sl (l.map f))) (h : pops G C rest K ⟨put s d (i64 l.length), m⟩) :
    pops G C (⟨d, .len x, none⟩ :: rest) K ⟨s, m⟩ := po_len hx rfl (List.length_map _) h
theorem slc_str {G : Glob} {s : Slots} {x a b : Arg} {t : ByteArray} {i j : Int} {k k' : IntKind} (hx : x.ev G s = .d (.str t)) (ha : a.ev G s = .d (.int k i)) (hb : b.ev G s = .d (.int k' j)) (h0 : 0 ≤ i) (h1 : i ≤ j) (h2 : j ≤ t.size) :
    ev G s (.slcS x (some a) (some b)) = some (.d (.str (t.extract i.toNat j.toNat))) := by
  simp only [ev, hx, Option.map_some, ha, hb, bnds, bnd]
  rw [if_pos ⟨by omega, h2⟩]
  simp only [Option.bind_some]
  rw [if_pos ⟨h0, by omega⟩]
  rfl
theorem str_add {G : Glob} {s : Slots} {a b : Arg} {x y : ByteArray} (ha : a.ev G s = .d (.str x)) (hb : b.ev G s = .d (.str y)) (h : x.size + y.size ≤ 9223372036854775807) : ev G s (.bin .add a b) = some (.d (.str (x ++ y))) := by
  simp only [ev, ha, hb, binEv, strBin]
  rw [if_pos h]
theorem len_of {G : Glob} {s : Slots} {a : Arg} {x : AV} (ha : a.ev G s = x) {rows : List (List Dat)} (h : x.rows? = some rows) : ev G s (.len a) = some (i64 rows.length) := by
  simp only [ev, ha]
  cases x <;> simp only [AV.rows?] at h <;> (try (cases h; done)) <;> simp [AV.rows?, h]
/-- Both. -/
theorem pvb : ((∀ (G : Glob) (s : Slots) (n : Nat), (Arg.t n).ev G s = s n) ∧ (∀ (G : Glob) (s : Slots) (v : AV), (Arg.c v).ev G s = v) ∧ (∀ (s : Slots) (t : Nat) (v : AV), put s (some t) v t = v) ∧
    (∀ (s : Slots) (t u : Nat) (v : AV), u ≠ t → put s (some t) v u = s u) ∧ (∀ (s : Slots) (v : AV), put s none v = s) ∧ (∀ (m : Mx) (t : St), (m.setSt t).st = t) ∧ (∀ (m : Mx) (t : St), (m.past t).st = t) ∧
    (∀ (s : Slots) (t : St), (pX s t).sl = s) ∧ (∀ (s : Slots) (t : St), (pX s t).m.st = t) ∧ (∀ b : Bool, b2 b = .d (.bool b)) ∧ (!true) = false ∧ (!false) = true ∧ (∀ (i : Decidable True) (a b : AV), @ite AV True i a b = a) ∧ (∀ (i : Decidable False) (a b : AV), @ite AV False i a b = b) ∧
    (∀ (i : Decidable True) (a b : Bool), @ite Bool True i a b = a) ∧ (∀ (i : Decidable False) (a b : Bool), @ite Bool False i a b = b) ∧ (false = true) = False ∧ (true == true) = true ∧ (true == false) = false ∧ (false == true) = false ∧ (false == false) = true ∧ (∀ b : Bool, (b || true) = true) ∧ (∀ b : Bool, (b || false) = b) ∧ (∀ b : Bool, (true || b) = true) ∧ (∀ b : Bool, (false || b) = b) ∧ (∀ b : Bool, (b && true) = b) ∧ (∀ b : Bool, (b && false) = false) ∧ (∀ b : Bool, (true && b) = b) ∧ (∀ b : Bool, (false && b) = false) ∧ (∀ a : Int, (a == a) = true)) ∧
    ((∀ (x : Dat), (AV.d x).cells = [.d x]) ∧ (∀ (l : List AV), (AV.agg l).cells = l) ∧ (∀ (l : List (List Dat)), (AV.full l).cells = [.full l]) ∧ (∀ (l : List AV), List.take 0 l = []) ∧ (∀ (n : Nat) (x : AV) (l : List AV), List.take (n + 1) (x :: l) = x :: List.take n l) ∧
    (∀ (n : Nat), List.take n ([] : List AV) = []) ∧ (∀ (n : Nat), List.drop n ([] : List AV) = []) ∧ (∀ (l : List AV), List.drop 0 l = l) ∧ (∀ (n : Nat) (x : AV) (l : List AV), List.drop (n + 1) (x :: l) = List.drop n l) ∧
    (∀ (l : List AV), [] ++ l = l) ∧ (∀ (x : AV) (k l : List AV), (x :: k) ++ l = x :: (k ++ l)) ∧ (∀ (s : St) (b : Nat) (l k : List AV), (s.setBox b l).setBox b k = s.setBox b k) ∧
    (∀ (x : AV) (l : List AV), pinit (x :: l) 0 = x) ∧ (∀ (x : AV) (l : List AV) (n : Nat), pinit (x :: l) (n + 1) = pinit l n) ∧ (∀ n : Nat, 0 + n = n) ∧ (∀ n : Nat, n + 0 = n) ∧ (∀ i : Decidable True, @decide True i = true) ∧ (∀ i : Decidable False, @decide False i = false)) := ⟨pvl, pvn⟩
end Go.Pv
