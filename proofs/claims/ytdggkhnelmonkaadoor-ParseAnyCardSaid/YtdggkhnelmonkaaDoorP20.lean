/- Any plain data among the arguments: numbers, texts, slices, structures of them. No condition. -/
import Derived.Test.YtdggkhnelmonkaaDoorP18
import Derived.ChangeArms
import Derived.OpenShut
import Derived.LaidMore
import Derived.Stop.Joined
namespace Go.Pv
open Go.ChangeShapes Go.WideShapes Go.ChangeAt Go.RowKit

section
variable {H : Type} {enc : TypeId × Value → H} {P : Program}

/-- Cell by cell. -/
inductive DAll (M : Mem) : List Dat → List Value → Prop where
  | nil : DAll M [] []
  | cons {d v ds vs} (h : DRel M d v) (hs : DAll M ds vs) : DAll M (d :: ds) (v :: vs)
theorem DAll.app {M : Mem} : ∀ {a b : List Dat} {c d : List Value}, DAll M a c → DAll M b d → DAll M (a ++ b) (c ++ d)
  | _, _, _, _, .nil, k => k
  | _, _, _, _, .cons h hs, k => .cons h (hs.app k)
theorem DAll.len {M : Mem} : ∀ {a : List Dat} {c : List Value}, DAll M a c → a.length = c.length
  | _, _, .nil => rfl
  | _, _, .cons _ hs => by simp [hs.len]
theorem DAll.get {M : Mem} : ∀ {a : List Dat} {c : List Value}, DAll M a c → ∀ i (h : i < a.length) (h' : i < c.length), DRel M a[i] c[i]
  | _, _, .cons h _, 0, _, _ => h
  | _, _, .cons _ hs, i + 1, h, h' => hs.get i (by simpa using h) (by simpa using h')
theorem DAll.one {M : Mem} {d : Dat} {v : Value} (h : DRel M d v) : DAll M [d] [v] := .cons h .nil

/-- The fields, one behind the other. -/
def fieldsOk (Q : TypeId → List Dat → Prop) : List TypeId → List Dat → Prop
  | [], ds => ds = []
  | f :: fs, ds => ∃ a b, ds = a ++ b ∧ Q f a ∧ fieldsOk Q fs b
/-- The cells of a type. -/
def TyOk (P : Program) : Nat → TypeId → List Dat → Prop
  | 0, _, _ => False
  | n + 1, t, ds => match P.underlying t with
    | some .bool => ∃ b, ds = [.bool b]
    | some (.int k) => ∃ x, ds = [.int k x] ∧ (Lit.int k x).wf = true
    | some (.float k) => ∃ b, ds = [.flt k b] ∧ (Lit.float k b).wf = true
    | some .string => ∃ s : ByteArray, ds = [.str s] ∧ s.size ≤ maxLen
    | some (.slice e) => ∃ rows, ds = [.sl rows] ∧ rows.length ≤ maxLen ∧ ∀ r ∈ rows, TyOk P n e r
    | some (.struct fs) => fieldsOk (TyOk P n) (fs.toList.map (·.type)) ds
    | some (.array k e) => fieldsOk (TyOk P n) (List.replicate k e) ds
    | _ => False

def offsetsB (P : Program) : Nat → List Field → Option Nat
  | o, [] => some o
  | o, f :: fs => if f.offset = o then offsetsB P (o + P.cellsOf f.type) fs else none
/-- Types of plain data, closed. -/
def plainB (P : Program) (S : List TypeId) : Bool :=
  S.all fun t => match P.underlying t with
    | some .bool | some (.int _) | some (.float _) | some .string => P.cellsOf t == 1
    | some (.slice e) => P.cellsOf t == 1 && S.contains e && decide (0 < P.cellsOf e)
    | some (.struct fs) => fs.toList.all (fun f => S.contains f.type) && (offsetsB P 0 fs.toList == some (P.cellsOf t))
    | some (.array k e) => S.contains e && (P.cellsOf t == k * P.cellsOf e)
    | _ => false

theorem mul_lt_of {i n c j : Nat} (hi : i < n) (hj : j < c) : i * c + j < n * c :=
  Nat.lt_of_lt_of_le (Nat.add_lt_add_left hj _) (by rw [← Nat.succ_mul]; exact Nat.mul_le_mul_right c hi)

theorem cells?_at {w : World} {base : Nat} {a : Addr} {n : Nat} {cs : List Value} (h : w.cells? base a n = some cs) : cs.length = n ∧ ∀ j, j < n → w.cell? (a.add j) = cs[j]? := by
  unfold World.cells? at h
  split at h
  · refine ⟨by simpa using mapM_some_length h, fun j hj => ?_⟩
    exact mapM_some_get h j j (by rw [List.getElem?_range hj])
  · cases h

theorem read_fields {w : World} {Q : TypeId → List Dat → Prop} (cs : List Value) : ∀ (fs : List Field) (o e : Nat), offsetsB P o fs = some e → e = cs.length →
    (∀ f ∈ fs, ((cs.drop f.offset).take (P.cellsOf f.type)).length = P.cellsOf f.type ∧ ∃ ds, DAll (Mem.of w) ds ((cs.drop f.offset).take (P.cellsOf f.type)) ∧ Q f.type ds) →
    ∃ ds, DAll (Mem.of w) ds (cs.drop o) ∧ fieldsOk Q (fs.map (·.type)) ds
  | [], o, e, h, he, _ => by
    simp only [offsetsB, Option.some.injEq] at h
    exact ⟨[], by rw [h, he, List.drop_length]; exact .nil, rfl⟩
  | f :: fs, o, e, h, he, hf => by
    simp only [offsetsB] at h
    split at h
    · rename_i ho
      subst ho
      obtain ⟨ds', h1, h2⟩ := read_fields cs fs _ e h he fun g hg => hf g (List.mem_cons_of_mem _ hg)
      obtain ⟨hl, ds, h3, h4⟩ := hf f List.mem_cons_self
      refine ⟨ds ++ ds', ?_, ds, ds', rfl, h4, h2⟩
      have := h3.app h1
      rw [← List.drop_drop, List.take_append_drop] at this
      exact this
    · cases h

theorem read_elems {w : World} {Q : TypeId → List Dat → Prop} (cs : List Value) (c : Nat) (e : TypeId) : ∀ (k i : Nat), (i + k) * c = cs.length →
    (∀ j, i ≤ j → j < i + k → ∃ ds, DAll (Mem.of w) ds ((cs.drop (j * c)).take c) ∧ Q e ds) → ∃ ds, DAll (Mem.of w) ds (cs.drop (i * c)) ∧ fieldsOk Q (List.replicate k e) ds
  | 0, i, h, _ => ⟨[], by rw [← Nat.add_zero i, h, List.drop_length]; exact .nil, rfl⟩
  | k + 1, i, h, hf => by
    obtain ⟨ds', h1, h2⟩ := read_elems cs c e k (i + 1) (by rw [← h]; congr 1; omega) fun j hj hj' => hf j (by omega) (by omega)
    obtain ⟨ds, h3, h4⟩ := hf i (Nat.le_refl _) (by omega)
    refine ⟨ds ++ ds', ?_, ds, ds', rfl, h4, h2⟩
    have := h3.app h1
    rw [Nat.add_mul, Nat.one_mul, ← List.drop_drop, List.take_append_drop] at this
    exact this
/-- What is read is data, in the whole heap. -/
theorem read_plain {S : List TypeId} (hS : plainB P S = true) {w : World} {sp : Nat → Bool} {held : Bool} : ∀ (fuel : Nat) (t : TypeId) (cs : List Value) (x : DataW H × List MemPlace), t ∈ S → DataW.trod enc P w 0 sp held fuel t cs = some x →
    cs.length = P.cellsOf t ∧ ∃ ds, DAll (Mem.of w) ds cs ∧ TyOk P fuel t ds
  | 0, t, cs, x, _, h => by simp [DataW.trod] at h
  | fuel + 1, t, cs, x, ht, h => by
    have hB := List.all_eq_true.1 hS t ht
    cases hu : P.underlying t with
    | none => rw [hu] at hB; cases hB
    | some u =>
      rw [hu] at hB
      cases u with
      | bool =>
        simp only [beq_iff_eq] at hB
        unfold DataW.trod at h
        rw [hu] at h
        split at h <;> simp_all
        rename_i b
        refine ⟨[.bool b], .one (.bool b), ?_⟩
        simp [TyOk, hu]
      | int k =>
        simp only [beq_iff_eq] at hB
        unfold DataW.trod at h
        rw [hu] at h
        split at h <;> simp_all
        rename_i k' n hx
        obtain ⟨⟨rfl, hw⟩, _⟩ := h
        refine ⟨[.int _ n], .one (.int _ n), ?_⟩
        simp [TyOk, hu, hw]
      | float k =>
        simp only [beq_iff_eq] at hB
        unfold DataW.trod at h
        rw [hu] at h
        split at h <;> simp_all
        rename_i k' n hx
        obtain ⟨⟨rfl, hw⟩, _⟩ := h
        refine ⟨[.flt _ n], .one (.flt _ n), ?_⟩
        simp [TyOk, hu, hw]
      | string =>
        simp only [beq_iff_eq] at hB
        unfold DataW.trod at h
        rw [hu] at h
        split at h <;> simp_all
        rename_i s
        refine ⟨[.str s], .one (.str s), ?_⟩
        simp [TyOk, hu, h.1]
      | slice e =>
        simp only [Bool.and_eq_true, beq_iff_eq, decide_eq_true_eq, List.contains_iff_mem] at hB
        obtain ⟨⟨hc1, he⟩, hc⟩ := hB
        rcases DataW.trod_slice hu h with ⟨rfl, _⟩ | ⟨a, len, cap, elems, rest, n, hn, rfl, _, _, hl, hm, hlen, hel, _⟩
        · refine ⟨hc1.symm, [.sl []], .one (.slE _ _), ?_⟩
          simp only [TyOk, hu]
          exact ⟨[], rfl, Nat.zero_le _, fun r hr => by cases hr⟩
        · obtain rfl : fuel = n := by omega
          have key : ∀ i, i < len → ∃ r : List Dat × List Value, w.cells? 0 (a.add (i * P.cellsOf e)) (P.cellsOf e) = some r.2 ∧ DAll (Mem.of w) r.1 r.2 ∧ TyOk P fuel e r.1 := by
            intro i hi
            have h1 := hel i hi
            rw [List.getElem?_eq_getElem (by omega), Option.bind_eq_some_iff] at h1
            obtain ⟨ci, hci, hti⟩ := h1
            obtain ⟨_, ds, h2, h3⟩ := read_plain hS fuel e ci _ he hti
            exact ⟨⟨ds, ci⟩, hci, h2, h3⟩
          let g : Nat → List Dat × List Value := fun i => if hi : i < len then Classical.choose (key i hi) else ([], [])
          have hg : ∀ i, i < len → w.cells? 0 (a.add (i * P.cellsOf e)) (P.cellsOf e) = some (g i).2 ∧ DAll (Mem.of w) (g i).1 (g i).2 ∧ TyOk P fuel e (g i).1 := by
            intro i hi
            simp only [g, dif_pos hi]
            exact Classical.choose_spec (key i hi)
          refine ⟨hc1.symm, [.sl ((List.range len).map fun i => (g i).1)], .one ?_, ?_⟩
          · by_cases h0 : len = 0
            · subst h0; exact .slE _ _
            · have hc00 := (cells?_at (hg 0 (by omega)).1).2 0 hc
              have hl0 := (cells?_at (hg 0 (by omega)).1).1
              rw [List.getElem?_eq_getElem (by omega)] at hc00
              rw [show (a.add (0 * P.cellsOf e)).add 0 = a by simp [Addr.add]] at hc00
              have ha' : a = ⟨a.block, a.off, none⟩ := spot_none hc00
              have hlen' : ((List.range len).map fun i => (g i).1).length = len := by simp
              have hrow : ∀ i, i < len → (g i).1.length = P.cellsOf e := fun i hi => (hg i hi).2.1.len.trans (cells?_at (hg i hi).1).1
              have := DRel.sl (M := Mem.of w) ((List.range len).map fun i => (g i).1) a.block a.off cap (P.cellsOf e) (fun o => (g (o / P.cellsOf e)).2.getD (o % P.cellsOf e) (.bool false)) (by rw [hlen']; exact hl)
                (fun r hr => by
                  simp only [List.mem_map, List.mem_range] at hr
                  obtain ⟨i, hi, rfl⟩ := hr
                  exact hrow i hi)
                (fun o ho => by
                  rw [hlen'] at ho
                  have hq : o / P.cellsOf e < len := Nat.div_lt_of_lt_mul (by rw [Nat.mul_comm]; exact ho)
                  have hr : o % P.cellsOf e < P.cellsOf e := Nat.mod_lt _ hc
                  have h6 := cells?_at (hg _ hq).1
                  have h7 := h6.2 _ hr
                  rw [List.getElem?_eq_getElem (by omega)] at h7
                  have h8 : (a.add (o / P.cellsOf e * P.cellsOf e)).add (o % P.cellsOf e) = ⟨a.block, a.off + o, none⟩ := by
                    have e1 : o / P.cellsOf e * P.cellsOf e + o % P.cellsOf e = o := by rw [Nat.mul_comm]; exact Nat.div_add_mod _ _
                    rw [ha', add_mid, add_mid, Nat.add_assoc, e1]
                  rw [h8] at h7
                  rw [List.getD_eq_getElem?_getD, List.getElem?_eq_getElem (by omega)]
                  exact h7)
                (fun i j hi hj => by
                  rw [hlen'] at hi
                  simp only [List.getElem_map, List.getElem_range] at hj ⊢
                  rw [hrow i hi] at hj
                  have e1 : (i * P.cellsOf e + j) / P.cellsOf e = i := by rw [Nat.mul_comm, Nat.mul_add_div hc, Nat.div_eq_of_lt hj]; rfl
                  have e2 : (i * P.cellsOf e + j) % P.cellsOf e = j := by rw [Nat.mul_comm, Nat.mul_add_mod, Nat.mod_eq_of_lt hj]
                  have h6 := (cells?_at (hg i hi).1).1
                  rw [e1, e2, List.getD_eq_getElem?_getD, List.getElem?_eq_getElem (by omega)]
                  exact (hg i hi).2.1.get j (by rw [hrow i hi]; exact hj) (by omega))
              rw [hlen'] at this
              rw [ha']
              exact this
          · simp only [TyOk, hu]
            refine ⟨_, rfl, by simp; omega, fun r hr => ?_⟩
            simp only [List.mem_map, List.mem_range] at hr
            obtain ⟨i, hi, rfl⟩ := hr
            exact (hg i hi).2.2
      | struct fs =>
        simp only [Bool.and_eq_true, beq_iff_eq, List.all_eq_true, List.contains_iff_mem] at hB
        obtain ⟨xs, n, hn, _, hl, hxl, hf⟩ := DataW.trod_struct hu h
        obtain rfl : fuel = n := by omega
        refine ⟨hl, ?_⟩
        obtain ⟨ds, h1, h2⟩ := read_fields (P := P) (w := w) (Q := TyOk P fuel) cs fs.toList 0 _ hB.2 hl.symm fun f hfm => by
          obtain ⟨i, hi, rfl⟩ := List.getElem_of_mem hfm
          have h3 := hf i _ (by rw [Array.getElem?_eq_getElem (by simpa using hi)])
          rw [List.getElem?_eq_getElem (by simp at hi; omega)] at h3
          have h4 := read_plain hS fuel _ _ _ (hB.1 _ hfm) (by simpa using h3)
          exact h4
        rw [List.drop_zero] at h1
        exact ⟨ds, h1, by simp only [TyOk, hu]; exact h2⟩
      | array k e =>
        simp only [Bool.and_eq_true, beq_iff_eq, List.contains_iff_mem] at hB
        obtain ⟨xs, n, hn, _, hl, hxl, hf⟩ := DataW.trod_array hu h
        obtain rfl : fuel = n := by omega
        refine ⟨hl, ?_⟩
        obtain ⟨ds, h1, h2⟩ := read_elems (w := w) (Q := TyOk P fuel) cs (P.cellsOf e) e k 0 (by rw [hl, hB.2, Nat.zero_add]) fun j _ hj => by
          have h3 := hf j (by omega)
          rw [List.getElem?_eq_getElem (by omega)] at h3
          exact (read_plain hS fuel _ _ _ hB.1 h3).2
        rw [Nat.zero_mul, List.drop_zero] at h1
        exact ⟨ds, h1, by simp only [TyOk, hu]; exact h2⟩
      | _ => cases hB
end
end Go.Pv
/- More rules to run code by value. No condition. -/
namespace Go.Pv

/-- A loop over no numbers. -/
theorem pzero {G : Glob} {C : CallsP} {keep : Option (List Nat)} {id ti tc tx : Nat} {bnd : Arg} {body : PCode} {Q : PEx → Slots → St → Prop} {s : Slots} {t : St} (hi : trim keep s ti = i64 0) (hl : bnd.ev G (trim keep s) = i64 0)
    (h : Q .normal (put (trim keep s) (some tc) (b2 false)) t) :
    pwp G C (.block id (.loop keep (.seq (.region [⟨some tc, .bin .lss (.t ti) bnd, none⟩]) (.seq (.cond (.t tc) .skip (.exit id)) (.seq body (.region [⟨some tx, .bin .add (.t ti) (.c (.d (.int .i64 1))), none⟩, ⟨some ti, .mov (.t tx), none⟩])))))) Q s t := by
  refine prange' 0 (by decide) (fun _ s' t' => s' = trim keep s ∧ t' = t) ⟨rfl, rfl⟩ ?_ ?_ ?_ ?_
  · rintro k s' t' hk ⟨rfl, rfl⟩
    obtain rfl : k = 0 := by omega
    exact hi
  · rintro k s' t' hk ⟨rfl, rfl⟩; exact hl
  · rintro s' t' ⟨rfl, rfl⟩; exact h
  · intro k hk; omega

theorem St.setBox_setBox (s : St) (b : Nat) (l k : List AV) : (s.setBox b l).setBox b k = s.setBox b k := by
  refine St.ext' (funext fun c => ?_) rfl
  simp only [St.box_setBox]
  split <;> rfl
theorem fresh_under {s : St} {b c : Nat} {l : List AV} (h : (s.setBox b l).fresh c) : s.fresh c := by
  refine ⟨?_, h.2⟩
  have := h.1
  rwa [St.box_setBox, if_neg (fun e => fresh_ne h e.symm)] at this

/-- How cells are read. -/
theorem pvn : (∀ (x : Dat), (AV.d x).cells = [.d x]) ∧ (∀ (l : List AV), (AV.agg l).cells = l) ∧ (∀ (l : List (List Dat)), (AV.full l).cells = [.full l]) ∧ (∀ (l : List AV), List.take 0 l = []) ∧ (∀ (n : Nat) (x : AV) (l : List AV), List.take (n + 1) (x :: l) = x :: List.take n l) ∧
    (∀ (n : Nat), List.take n ([] : List AV) = []) ∧ (∀ (n : Nat), List.drop n ([] : List AV) = []) ∧ (∀ (l : List AV), List.drop 0 l = l) ∧ (∀ (n : Nat) (x : AV) (l : List AV), List.drop (n + 1) (x :: l) = List.drop n l) ∧
    (∀ (l : List AV), [] ++ l = l) ∧ (∀ (x : AV) (k l : List AV), (x :: k) ++ l = x :: (k ++ l)) ∧ (∀ (s : St) (b : Nat) (l k : List AV), (s.setBox b l).setBox b k = s.setBox b k) ∧
    (∀ (x : AV) (l : List AV), pinit (x :: l) 0 = x) ∧ (∀ (x : AV) (l : List AV) (n : Nat), pinit (x :: l) (n + 1) = pinit l n) ∧ (∀ n : Nat, 0 + n = n) ∧ (∀ n : Nat, n + 0 = n) ∧ (∀ i : Decidable True, @decide True i = true) ∧ (∀ i : Decidable False, @decide False i = false) :=
  ⟨fun _ => rfl, fun _ => rfl, fun _ => rfl, fun _ => rfl, fun _ _ _ => rfl, fun _ => List.take_nil, fun _ => List.drop_nil, fun _ => rfl, fun _ _ _ => rfl, fun _ => rfl, fun _ _ _ => rfl, St.setBox_setBox, fun _ _ => rfl, fun _ _ _ => rfl, Nat.zero_add, fun _ => rfl, fun _ => decide_eq_true trivial, fun _ => decide_eq_false id⟩
/-- The byte at a place. -/
def byteAt (s : ByteArray) (i : Nat) : Int := ((s.toList.getD i 0).toNat : Int)
theorem idx_byte {x : ByteArray} {i : Nat} (hi : i < x.size) : (x[i]?).map (fun b : UInt8 => AV.d (.int .u8 b.toNat)) = some (.d (.int .u8 (byteAt x i))) := by
  have h : x.toList.getD i 0 = x[i] := by
    rw [ByteArray.toList_eq, List.getD_eq_getElem?_getD]
    have : i < x.data.toList.length := by simpa using hi
    rw [List.getElem?_eq_getElem this]
    rfl
  rw [getElem?_pos x i hi, Option.map_some]
  simp only [byteAt, h]
theorem po_idxS {G : Glob} {C : CallsP} {a b : Arg} {d : Option Nat} {rest : List POper} {K : X → Prop} {s : Slots} {m : Mx} {x : ByteArray} {k : Nat} (ha : a.ev G s = .d (.str x)) (hb : b.ev G s = i64 k) (hk : k < x.size)
    (h : pops G C rest K ⟨put s d (.d (.int .u8 (byteAt x k))), m⟩) : pops G C (⟨d, .idxS a b, none⟩ :: rest) K ⟨s, m⟩ :=
  po rfl (by
    simp only [ev, ha, hb, i64]
    rw [if_pos (Int.natCast_nonneg k), Int.toNat_natCast]
    exact idx_byte hk) h
/-- One step of a row. -/
theorem iaddr_rows {G : Glob} {s : Slots} {a b : Arg} {v : AV} {rows : List (List Dat)} {k sz : Nat} (ha : a.ev G s = v) (hv : v.rows? = some rows) (hb : b.ev G s = i64 k) (hk : k < rows.length) (hs : rows[k].length = sz) : ev G s (.iaddr sz a b) = some (.elt rows[k]) := by
  simp only [ev, ha, hb]
  cases v <;> simp only [AV.rows?] at hv <;> (try (cases hv; done)) <;> simp [AV.rows?, hv, i64, hk, hs]
theorem po_lenM {G : Glob} {C : CallsP} {α : Type} {f : α → List Dat} {x : Arg} {d : Option Nat} {rest : List POper} {K : X → Prop} {s : Slots} {m : Mx} {l : List α} (hx : x.ev G s = .d (.sl (l.map f))) (h : pops G C rest K ⟨put s d (i64 l.length), m⟩) :
    pops G C (⟨d, .len x, none⟩ :: rest) K ⟨s, m⟩ := po_len hx rfl (List.length_map _) h
theorem slc_str {G : Glob} {s : Slots} {x a b : Arg} {t : ByteArray} {i j : Int} {k k' : IntKind} (hx : x.ev G s = .d (.str t)) (ha : a.ev G s = .d (.int k i)) (hb : b.ev G s = .d (.int k' j)) (h0 : 0 ≤ i) (h1 : i ≤ j) (h2 : j ≤ t.size) :
    ev G s (.slcS x (some a) (some b)) = some (.d (.str (t.extract i.toNat j.toNat))) := by
  simp only [ev, hx, Option.map_some, ha, hb, bnds, bnd]
  rw [if_pos ⟨by omega, h2⟩]
  simp only [Option.bind_some]
  rw [if_pos ⟨h0, by omega⟩]
  rfl
theorem str_add {G : Glob} {s : Slots} {a b : Arg} {x y : ByteArray} (ha : a.ev G s = .d (.str x)) (hb : b.ev G s = .d (.str y)) (h : x.size + y.size ≤ 9223372036854775807) : ev G s (.bin .add a b) = some (.d (.str (x ++ y))) := by
  simp only [ev, ha, hb, binEv, strBin]
  rw [if_pos h]
theorem len_of {G : Glob} {s : Slots} {a : Arg} {x : AV} (ha : a.ev G s = x) {rows : List (List Dat)} (h : x.rows? = some rows) : ev G s (.len a) = some (i64 rows.length) := by
  simp only [ev, ha]
  cases x <;> simp only [AV.rows?] at h <;> (try (cases h; done)) <;> simp [AV.rows?, h]
/-- Both. -/
theorem pvb : ((∀ (G : Glob) (s : Slots) (n : Nat), (Arg.t n).ev G s = s n) ∧ (∀ (G : Glob) (s : Slots) (v : AV), (Arg.c v).ev G s = v) ∧ (∀ (s : Slots) (t : Nat) (v : AV), put s (some t) v t = v) ∧
    (∀ (s : Slots) (t u : Nat) (v : AV), u ≠ t → put s (some t) v u = s u) ∧ (∀ (s : Slots) (v : AV), put s none v = s) ∧ (∀ (m : Mx) (t : St), (m.setSt t).st = t) ∧ (∀ (m : Mx) (t : St), (m.past t).st = t) ∧
    (∀ (s : Slots) (t : St), (pX s t).sl = s) ∧ (∀ (s : Slots) (t : St), (pX s t).m.st = t) ∧ (∀ b : Bool, b2 b = .d (.bool b)) ∧ (!true) = false ∧ (!false) = true ∧ (∀ (i : Decidable True) (a b : AV), @ite AV True i a b = a) ∧ (∀ (i : Decidable False) (a b : AV), @ite AV False i a b = b) ∧
    (∀ (i : Decidable True) (a b : Bool), @ite Bool True i a b = a) ∧ (∀ (i : Decidable False) (a b : Bool), @ite Bool False i a b = b) ∧ (false = true) = False ∧ (true == true) = true ∧ (true == false) = false ∧ (false == true) = false ∧ (false == false) = true ∧ (∀ b : Bool, (b || true) = true) ∧ (∀ b : Bool, (b || false) = b) ∧ (∀ b : Bool, (true || b) = true) ∧ (∀ b : Bool, (false || b) = b) ∧ (∀ b : Bool, (b && true) = b) ∧ (∀ b : Bool, (b && false) = false) ∧ (∀ b : Bool, (true && b) = b) ∧ (∀ b : Bool, (false && b) = false) ∧ (∀ a : Int, (a == a) = true)) ∧
    ((∀ (x : Dat), (AV.d x).cells = [.d x]) ∧ (∀ (l : List AV), (AV.agg l).cells = l) ∧ (∀ (l : List (List Dat)), (AV.full l).cells = [.full l]) ∧ (∀ (l : List AV), List.take 0 l = []) ∧ (∀ (n : Nat) (x : AV) (l : List AV), List.take (n + 1) (x :: l) = x :: List.take n l) ∧
    (∀ (n : Nat), List.take n ([] : List AV) = []) ∧ (∀ (n : Nat), List.drop n ([] : List AV) = []) ∧ (∀ (l : List AV), List.drop 0 l = l) ∧ (∀ (n : Nat) (x : AV) (l : List AV), List.drop (n + 1) (x :: l) = List.drop n l) ∧
    (∀ (l : List AV), [] ++ l = l) ∧ (∀ (x : AV) (k l : List AV), (x :: k) ++ l = x :: (k ++ l)) ∧ (∀ (s : St) (b : Nat) (l k : List AV), (s.setBox b l).setBox b k = s.setBox b k) ∧
    (∀ (x : AV) (l : List AV), pinit (x :: l) 0 = x) ∧ (∀ (x : AV) (l : List AV) (n : Nat), pinit (x :: l) (n + 1) = pinit l n) ∧ (∀ n : Nat, 0 + n = n) ∧ (∀ n : Nat, n + 0 = n) ∧ (∀ i : Decidable True, @decide True i = true) ∧ (∀ i : Decidable False, @decide False i = false)) := ⟨pvl, pvn⟩
end Go.Pv
/- A call by value where package variables are laid. No condition. -/
namespace Go.Pv
open Go.ChangeShapes Go.WideShapes Go.ChangeAt Go.RowKit

/-- What the variables hold. -/
def GlobIn (G : Glob) (W : World) : Prop := ∀ g cells, G g = some cells → ∀ i (h : i < cells.length), ∃ v, Mem.of W g i = some v ∧ DRel (Mem.of W) cells[i] v
theorem WRel.startG {G : Glob} {w : World} (hG : GlobIn G w) : WRel G (Mem.of w) St.none w where
  box := fun b c h => by cases h
  boxM := fun b c h => by cases h
  boxT := fun b c h => by cases h
  tok := fun b k h => by cases h
  imm := fun b o v h => h
  glob := hG

theorem calls_startG {P : Program} {G : Glob} {f : FuncId} {as : List AV} {v : AV} (h : Pure (PCalls P G) f as v) {w : World} (hG : GlobIn G w) {args : Array Value} (hA : ARel (Mem.of w) as args.toList) :
    Calls P f args w fun e w' => ∃ u M', e = .returned u ∧ AVRel M' v u ∧ Kept w w' := by
  obtain ⟨_, hc⟩ := (h St.none).ends
  refine (hc (Mem.of w) w args (WRel.startG hG) hA).mono ?_
  rintro e w' ⟨u, r, st', M', rfl, _, hr, hF, _, rfl⟩
  exact ⟨u, M', rfl, hr, Kept.of_frame hF⟩

/-- A variable that holds a row of texts. -/
theorem laid_strs {H : Type} {enc : TypeId × Value → H} {P : Program} {t e : TypeId} (ht : P.underlying t = some (.slice e)) (he : P.underlying e = some .string) (hc : P.cellsOf e = 1) {W : World} {sp : Nat → Bool} {held : Bool} {fuel : Nat} {cs : List Value} {l : List (List UInt8)} {p : List MemPlace} (h0 : l ≠ [])
    (h : DataW.trod enc P W 0 sp held fuel t cs = some (.slice (l.map fun s => .lit (.string s)) [], p)) :
    ∃ v, cs = [v] ∧ DRel (Mem.of W) (.sl ((l.map fun s => (⟨s.toArray⟩ : ByteArray)).map fun s => [.str s])) v := by
  obtain ⟨a, cap, rfl, hl, hcell⟩ := open_row ht hc h
  rw [List.length_map] at hl
  have key : ∀ i (hi : i < l.length), W.cell? (a.add i) = some (.string ⟨l[i].toArray⟩) := by
    intro i hi
    obtain ⟨v, n, q, h1, h2⟩ := hcell i (.lit (.string l[i])) (by simp [hi])
    rw [h1]
    cases n with
    | zero => simp [DataW.trod] at h2
    | succ n =>
      unfold DataW.trod at h2
      rw [he] at h2
      cases v <;> simp at h2
      rename_i s
      obtain ⟨_, h3, _⟩ := h2
      obtain ⟨⟨d⟩⟩ := s
      simp at h3
      rw [← h3]
  have hpos : 0 < l.length := List.length_pos_iff.2 h0
  have ha := spot_none (w := W) (a := a) (by have := key 0 hpos; rwa [show a.add 0 = a by simp [Addr.add]] at this)
  refine ⟨_, rfl, ?_⟩
  have hL : ((l.map fun s => (⟨s.toArray⟩ : ByteArray)).map fun s => [Dat.str s]).length = l.length := by simp
  have := DRel.sl (M := Mem.of W) ((l.map fun s => (⟨s.toArray⟩ : ByteArray)).map fun s => [.str s]) a.block a.off cap 1 (fun i => .string ⟨(l.getD i []).toArray⟩) (by rw [hL]; exact hl) (fun r hr => by
    simp only [List.mem_map] at hr
    obtain ⟨n, _, rfl⟩ := hr
    rfl) (fun o ho => by
    rw [hL, Nat.mul_one] at ho
    have := key o ho
    rw [ha, add_mid] at this
    rw [List.getD_eq_getElem?_getD, List.getElem?_eq_getElem ho]
    exact this) (fun i j hi hj => by
    rw [hL] at hi
    simp only [List.getElem_map] at hj ⊢
    simp only [List.length_cons, List.length_nil] at hj
    obtain rfl : j = 0 := by omega
    rw [Nat.mul_one, Nat.add_zero, List.getD_eq_getElem?_getD, List.getElem?_eq_getElem hi]
    exact .str _)
  rw [hL] at this
  rw [List.length_map, ha]
  exact this
end Go.Pv
