/- Programs, and what they do, in plain words. No condition. -/
import Derived.Test.YtmcdhendjlijhaaE1
import Derived.Test.YtmcdhendjlijhaaP26
namespace Go.Pv
set_option maxRecDepth 100000

/-- An instruction. -/
structure Ins where
  op : Int
  dst : Int
  a : Int
  b : Int
  n : Int
def Ins.row (x : Ins) : List Dat := [.int .u8 x.op, .int .u8 x.dst, .int .u8 x.a, .int .u8 x.b, .int .i16 x.n]
theorem Ins.row_len : ∀ x : Ins, x.row.length = 5 := fun _ => rfl
theorem Ins.row_av (x : Ins) : x.row.map AV.d = [.d (.int .u8 x.op), .d (.int .u8 x.dst), .d (.int .u8 x.a), .d (.int .u8 x.b), .d (.int .i16 x.n)] := rfl
/-- As the document's answer has it. -/
def Ins.rrow (x : Ins) : List Dat := [.int .i64 x.op, .int .i64 x.dst, .int .i64 x.a, .int .i64 x.b, .int .i64 x.n]
theorem Ins.rrow_len : ∀ x : Ins, x.rrow.length = 5 := fun _ => rfl
theorem Ins.rrow_av (x : Ins) : x.rrow.map AV.d = [.d (.int .i64 x.op), .d (.int .i64 x.dst), .d (.int .i64 x.a), .d (.int .i64 x.b), .d (.int .i64 x.n)] := rfl
structure Ins.fit (x : Ins) : Prop where
  op : 0 ≤ x.op ∧ x.op ≤ 255
  dst : 0 ≤ x.dst ∧ x.dst ≤ 255
  a : 0 ≤ x.a ∧ x.a ≤ 255
  b : 0 ≤ x.b ∧ x.b ≤ 255
  n : -32768 ≤ x.n ∧ x.n ≤ 32767

abbrev w64 (n : Int) : Int := IntKind.i64.wrap n
def rg (R : List Int) (a : Int) : Int := R.getD a.toNat 0
def sumOf (args : List Int) : Int := args.foldl (fun s n => w64 (s + n)) 0

/-- What comes of instructions: the registers, and whether it goes on; an error. -/
inductive Out where
  | done (ok : Bool) (R : List Int)
  | fail (e r : Int)
  | stuck
def rep (g : List Int → Out) : Nat → List Int → Out
  | 0, R => .done true R
  | n + 1, R => match g R with
    | .done true R' => rep g n R'
    | o => o
/-- What a plain instruction does: to where it goes. -/
def actV (x : Ins) (args : List Int) (a b d : Int) : Int :=
  if x.op = 1 then x.n
  else if x.op = 2 then a
  else if x.op = 3 then w64 (a + b)
  else if x.op = 4 then w64 (a - b)
  else if x.op = 5 then w64 (a * b)
  else if x.op = 6 then w64 (a.tdiv b)
  else if x.op = 7 then (if a < b then 1 else 0)
  else if x.op = 11 then sumOf args
  else d
def bOf (x : Ins) (R : List Int) : Int := if x.b < 16 then rg R x.b else 0
def act (x : Ins) (args R : List Int) : List Int := R.set x.dst.toNat (actV x args (rg R x.a) (bOf x R) (rg R x.dst))

def go (p : List Ins) (args : List Int) : Nat → Nat → Nat → List Int → Out
  | 0, _, _, _ => .stuck
  | f + 1, i, to, R =>
    if i < to then
      match p[i]? with
      | none => .stuck
      | some x =>
        if 16 ≤ x.dst ∨ 16 ≤ x.a then .stuck
        else if x.op = 0 then .done false R
        else if x.op = 6 ∧ bOf x R = 0 then .fail 14 0
        else if x.op = 10 ∧ rg R x.a ≠ 0 then .fail 16 x.n
        else if x.op = 9 then
          match rep (go p args f (i + 1) (i + 1 + x.b.toNat)) x.n.toNat R with
          | .done true R' => go p args f (i + 1 + x.b.toNat) to R'
          | o => o
        else if x.op = 8 ∧ rg R x.a = 0 then
          if x.n < 0 then .stuck else go p args f (i + 1 + x.n.toNat) to R
        else go p args f (i + 1) to (act x args R)
    else .done true R

/-- Where the body of a loop ends. -/
def bodyEnd (p : List Ins) (i : Nat) : Nat := match p[i]? with
  | some x => if x.op = 9 then i + 1 + x.b.toNat else 0
  | none => 0
def within (p : List Ins) (i : Nat) : Nat := ((List.range (min i p.length)).find? fun k => decide (bodyEnd p k > i)).elim 0 (bodyEnd p)
def fuel1 (x : Ins) : Int := if x.op = 9 then x.b * (max x.n 1 - 1) else 0
def fuelP (p : List Ins) : Int := p.length + (p.map fuel1).sum
/-- What is wrong with an instruction. -/
def chk1 (p : List Ins) (i : Nat) (x : Ins) : Int :=
  if x.op ≥ 12 then 5
  else if x.dst ≥ 16 ∨ x.a ≥ 16 ∨ (x.op ≠ 9 ∧ x.b ≥ 16) then 2
  else if x.op = 9 ∧ (within p i > 0 ∨ x.b < 1 ∨ bodyEnd p i > p.length ∨ x.n < 1 ∨ x.n > 8) then 4
  else if x.op = 8 ∧ (x.n < 1 ∨ (i : Int) + 1 + x.n > p.length ∨ (within p i > 0 ∧ (i : Int) + 1 + x.n > within p i) ∨ (within p i = 0 ∧ within p (i + 1 + x.n.toNat) > 0)) then 4
  else if x.op = 10 ∧ x.n < 0 then 2
  else 0
/-- The first thing that is wrong. -/
def chkFrom (p : List Ins) : Nat → List Ins → Int
  | _, [] => if fuelP p > 200 then 6 else 0
  | i, x :: l => if chk1 p i x ≠ 0 then chk1 p i x else chkFrom p (i + 1) l
def checkP (p : List Ins) : Int := if p.length > 24 then 7 else chkFrom p 0 p

/-- A machine's cells. -/
def rcells (R : List Int) (p : List Ins) (args : List Int) : List AV := R.map (fun n => .d (.int .i64 n)) ++ [.d (.sl (p.map Ins.row)), .d (.sl (args.map fun n => [.int .i64 n]))]
theorem rcells_len (R : List Int) (p : List Ins) (args : List Int) : (rcells R p args).length = R.length + 2 := by simp [rcells]
theorem rcells_get {R : List Int} (p : List Ins) (args : List Int) {k : Int} (h : k.toNat < R.length) : ldv false 1 ((rcells R p args).drop (0 + k.toNat * 1)) = some (.d (.int .i64 (rg R k))) := by
  unfold ldv
  have hl : ((rcells R p args).drop (0 + k.toNat * 1)).length = R.length + 2 - k.toNat := by simp [rcells]
  rw [if_neg (by omega)]
  simp only [Bool.false_eq_true, if_false, if_true]
  rw [List.head?_drop, Nat.mul_one, Nat.zero_add, rcells, List.getElem?_append_left (by simpa using h), List.getElem?_map, List.getElem?_eq_getElem h]
  simp [rg, h]
theorem rcells_prog {R : List Int} (p : List Ins) (args : List Int) (h : R.length = 16) : ldv false 1 ((rcells R p args).drop 16) = some (.d (.sl (p.map Ins.row))) := by
  unfold ldv
  simp [rcells, h]
theorem rcells_args {R : List Int} (p : List Ins) (args : List Int) (h : R.length = 16) : ldv false 1 ((rcells R p args).drop 17) = some (.d (.sl (args.map fun n => [.int .i64 n]))) := by
  unfold ldv
  simp [rcells, h]
theorem rcells_set {R : List Int} (p : List Ins) (args : List Int) {k : Int} (h : k.toNat < R.length) (v : Int) : (rcells R p args).take (0 + k.toNat * 1) ++ [.d (.int .i64 v)] ++ (rcells R p args).drop (0 + k.toNat * 1 + 1) = rcells (R.set k.toNat v) p args := by
  have e1 : (rcells R p args).set k.toNat (.d (.int .i64 v)) = rcells (R.set k.toNat v) p args := by
    unfold rcells
    rw [List.set_append_left _ _ (by simpa using h), List.map_set]
  rw [← e1, List.set_eq_take_append_cons_drop, if_pos (by rw [rcells_len]; omega), Nat.mul_one, Nat.zero_add, List.append_assoc]
  rfl

theorem rg_set {R : List Int} {d : Int} (h : d.toNat < R.length) (v : Int) : rg (R.set d.toNat v) d = v := by
  rw [rg, List.getD_eq_getElem?_getD, List.getElem?_set_self h]; rfl
theorem sum_snoc (l : List Int) (y : Int) : sumOf (l ++ [y]) = IntKind.i64.wrap (sumOf l + y) := by rw [sumOf, List.foldl_append]; rfl
theorem set_self (R : List Int) (d : Int) : R.set d.toNat (rg R d) = R := by
  apply List.ext_getElem?
  intro j
  rw [List.getElem?_set]
  split
  · rename_i e
    subst e
    split
    · rename_i h; rw [rg, List.getD_eq_getElem?_getD, List.getElem?_eq_getElem h]; rfl
    · rename_i h; rw [List.getElem?_eq_none (by omega)]
  · rfl

section
variable {G : Glob} {C : CallsP}
/-- A register's place. -/
theorem po_ria {len sz : Nat} {x i : Arg} {d : Option Nat} {rest : List POper} {K : X → Prop} {s : Slots} {m : Mx} {b o : Nat} {k : IntKind} {n : Int} (hx : x.ev G s = .d (.ptr b o)) (hi : i.ev G s = .d (.int k n)) (hn : 0 ≤ n ∧ n < (len : Int)) (h : pops G C rest K ⟨put s d (.d (.ptr b (o + n.toNat * sz))), m⟩) :
    pops G C (⟨d, .iaddrA len sz x i, none⟩ :: rest) K ⟨s, m⟩ :=
  po rfl (show ev G s (.iaddrA len sz x i) = some (.d (.ptr b (o + n.toNat * sz))) by simp only [ev, hi, hx]; rw [if_pos hn]) h
theorem po_rload {st t : St} {L Z : List Item} {x : Arg} {d : Option Nat} {rest : List POper} {K : X → Prop} {s : Slots} {m : Mx} {b : Nat} {R : List Int} {p : List Ins} {args : List Int} {k : Int} (hL : Lay st L t) (hm : m.st = t) (hx : x.ev G s = .d (.ptr b (0 + k.toNat * 1))) (hr : Rem (.box b (rcells R p args)) L Z)
    (hk : 0 ≤ k ∧ k < 16) (hR : R.length = 16) (h : pops G C rest K ⟨put s d (.d (.int .i64 (rg R k))), m⟩) : pops G C (⟨d, .load false 1 x false, none⟩ :: rest) K ⟨s, m⟩ :=
  po_loadL hL hm hx hr (rcells_get p args (by omega)) h
theorem po_rstore {st t : St} {L Z : List Item} {x y : Arg} {d : Option Nat} {rest : List POper} {K : X → Prop} {s : Slots} {m : Mx} {b : Nat} {R : List Int} {p : List Ins} {args : List Int} {k v : Int} (hL : Lay st L t) (hm : m.st = t) (hx : x.ev G s = .d (.ptr b (0 + k.toNat * 1))) (hr : Rem (.box b (rcells R p args)) L Z)
    (hy : y.ev G s = .d (.int .i64 v)) (hk : 0 ≤ k ∧ k < 16) (hR : R.length = 16) (hh : ∀ u, m.holds u) (h : ∀ t', Lay st (.box b (rcells (R.set k.toNat v) p args) :: Z) t' → pops G C rest K ⟨put s d .undef, m.past t'⟩) : pops G C (⟨d, .store 1 x y, none⟩ :: rest) K ⟨s, m⟩ :=
  po_storeL hL hm hx hr (cs := [.d (.int .i64 v)]) (by rw [hy]; rfl) ⟨rfl, rfl⟩ (by rw [rcells_len]; omega) (rcells_set p args (by omega) v) hh h
end
end Go.Pv
/- What is played, in plain words. No condition. -/
namespace Go.Pv
set_option maxRecDepth 100000

/-- Whole numbers of 64 bits. -/
def Rok (R : List Int) : Prop := ∀ x ∈ R, -9223372036854775808 ≤ x ∧ x ≤ 9223372036854775807
theorem w64_in (n : Int) : -9223372036854775808 ≤ w64 n ∧ w64 n ≤ 9223372036854775807 := by
  simp only [IntKind.wrap, IntKind.signed, IntKind.bits]
  simp
  omega

/-- The registers at the start. -/
def reg0 (S args : List Int) : List Int := S ++ (List.range 8).map fun i => args.getD i 0
def regk (S args : List Int) (k : Nat) : List Int := S ++ (List.range 8).map fun i => if i < k then args.getD i 0 else 0
theorem regk_len {S : List Int} (h : S.length = 8) (args : List Int) (k : Nat) : (regk S args k).length = 16 := by simp [regk, h]
theorem regk_8 (S args : List Int) : regk S args 8 = reg0 S args := by
  exact congrArg (S ++ ·) (List.map_congr_left fun i hi => if_pos (List.mem_range.1 hi))
theorem regk_0 (S args : List Int) : regk S args 0 = S ++ [0, 0, 0, 0, 0, 0, 0, 0] := rfl
theorem regk_set {S args : List Int} (hS : S.length = 8) {k : Nat} (hk : k < 8) {y : Int} (hy : args.getD k 0 = y) : (regk S args k).set (8 + k) y = regk S args (k + 1) := by
  apply List.ext_getElem?
  intro j
  rw [List.getElem?_set]
  have hl := regk_len hS args k
  by_cases hj : 8 + k = j
  · subst hj
    rw [if_pos rfl, if_pos (by omega)]
    unfold regk
    rw [List.getElem?_append_right (by omega), hS]
    have e : 8 + k - 8 = k := by omega
    rw [e, List.getElem?_map, List.getElem?_range hk, Option.map_some, if_pos (by omega), hy]
  · rw [if_neg hj]
    unfold regk
    by_cases h8 : j < 8
    · rw [List.getElem?_append_left (by omega), List.getElem?_append_left (by omega)]
    · rw [List.getElem?_append_right (by omega), List.getElem?_append_right (by omega), hS]
      simp only [List.getElem?_map]
      by_cases h16 : j - 8 < 8
      · rw [List.getElem?_range h16]
        simp only [Option.map_some]
        have : (j - 8 < k) ↔ (j - 8 < k + 1) := by omega
        simp only [this]
      · rw [List.getElem?_eq_none (by simp; omega)]
        rfl
theorem regk_skip {S args : List Int} {k : Nat} (hk : args.length ≤ k) : regk S args k = regk S args (k + 1) := by
  unfold regk
  congr 1
  refine List.map_congr_left fun i _ => ?_
  by_cases h1 : i < k
  · rw [if_pos h1, if_pos (by omega)]
  · by_cases h2 : i < k + 1
    · rw [if_neg h1, if_pos h2]
      have : i = k := by omega
      subst this
      rw [List.getD_eq_getElem?_getD, List.getElem?_eq_none hk]; rfl
    · rw [if_neg h1, if_neg h2]
theorem reg0_len {S : List Int} (h : S.length = 8) (args : List Int) : (reg0 S args).length = 16 := by simp [reg0, h]
theorem regs_take {R : List Int} (p : List Ins) (args : List Int) (hR : R.length = 16) : ((rcells R p args).drop 0).take 8 = (R.take 8).map fun n => AV.d (.int .i64 n) := by
  rw [List.drop_zero, rcells, List.take_append_of_le_length (by simp; omega), List.map_take]
/-- A machine's cells, as data. -/
def rdats (R : List Int) (p : List Ins) (args : List Int) : List Dat := R.map (fun n => .int .i64 n) ++ [.sl (p.map Ins.row), .sl (args.map fun n => [.int .i64 n])]
theorem rcells_weak (R : List Int) (p : List Ins) (args : List Int) : (rcells R p args).map AV.weak1 = (rdats R p args).map .d := by
  simp [rcells, rdats, AV.weak1, Function.comp_def]
theorem elt_regs {G : Glob} {s : Slots} {x : Arg} {R : List Int} {p : List Ins} {args : List Int} (hx : x.ev G s = .elt ((rdats R p args).drop 0)) (hR : R.length = 16) :
    ev G s (.slcA 16 1 x (some (.c (.d (.int .i64 8)))) none) = some (.d (.sl ((R.drop 8).map fun n => [.int .i64 n]))) := by
  simp only [ev, hx, List.drop_zero]
  rw [if_pos ⟨trivial, by simp [rdats]; omega⟩]
  have e : (rdats R p args).take 16 = R.map (fun n => .int .i64 n) := by
    rw [rdats, List.take_append_of_le_length (by simp; omega), List.take_of_length_le (by simp; omega)]
  show some (AV.d (.sl ((((rdats R p args).take 16).drop 8).map fun c => [c]))) = _
  rw [e, ← List.map_drop, List.map_map]
  rfl
theorem Rok.app {l k : List Int} (h : Rok l) (h' : Rok k) : Rok (l ++ k) := fun x hx => (List.mem_append.1 hx).elim (h x) (h' x)
theorem Rok.one {n : Int} (h : -9223372036854775808 ≤ n ∧ n ≤ 9223372036854775807) : Rok [n] := fun x hx => by rw [List.mem_singleton.1 hx]; exact h
theorem zero_fit : VT.zero.fit := .mk (by decide) (by decide) (by decide) (by decide) (fun _ h => by cases h)
theorem walkM_ok (most : Int) : ∀ (d : Nat) (t : KT) (v : VT) (o : List Int), v.fit → Rok o → Rok (walkM most d t v o)
  | 0, _, _, _, _, ho => ho
  | d + 1, t, v, o, hv, ho => by
    have ih := walkM_ok most d
    have hw := wholeF_in v.f
    have hn := hv.num
    have hl := hv.len
    have hs := hv.txt
    rw [walkM]
    split
    · exact ho
    split
    · exact ho.app (.one (by omega))
    split
    · exact ho.app (.one (by omega))
    split
    · have key : ∀ (xs : List VT) (o : List Int), (∀ x ∈ xs, x.fit) → Rok o → Rok (xs.foldl (fun o x => walkM most d (t.of.getD 0 (.mk 0 0 [] [])) x o) o) := by
        intro xs
        induction xs with
        | nil => exact fun o _ h => h
        | cons x xs ihx => exact fun o hx h => ihx _ (fun y hy => hx y (List.mem_cons_of_mem _ hy)) (ih _ x o (hx x List.mem_cons_self) h)
      exact key _ _ (fun x hx => hv.part hx) (ho.app (.one (by omega)))
    split
    · have key : ∀ (ts : List KT) (xs : List VT) (o : List Int), (∀ x ∈ xs, x.fit) → Rok o → Rok (foldZ (walkM most d) ts xs o) := by
        intro ts
        induction ts with
        | nil => intro xs o _ h; cases xs <;> exact h
        | cons y ts ihy =>
          intro xs o hx h
          cases xs with
          | nil => exact h
          | cons x xs => exact ihy xs _ (fun z hz => hx z (List.mem_cons_of_mem _ hz)) (ih y x o (hx x List.mem_cons_self) h)
      exact key _ _ _ (fun x hx => hv.part hx) ho
    split
    · refine ih _ _ _ ?_ (ho.app (.one hn))
      rw [List.getD_eq_getElem?_getD]
      cases h0 : v.of[0]? with
      | none => exact zero_fit
      | some x => exact hv.part (List.mem_of_getElem? h0)
    · exact ho.app (.one hn)
theorem flatM_ok {most : Int} {t : KT} {v : VT} {l : List Int} (hv : v.fit) (h : flatM most t v = l) : Rok l := by
  subst h
  unfold flatM
  split
  · exact fun x hx => walkM_ok most 20 t v [] hv (fun _ h => by cases h) x (List.mem_of_mem_take hx)
  · exact fun _ h => by cases h
theorem getD_ok {l : List Int} (h : Rok l) (i : Nat) : -9223372036854775808 ≤ l.getD i 0 ∧ l.getD i 0 ≤ 9223372036854775807 := by
  rw [List.getD_eq_getElem?_getD]
  cases h0 : l[i]? with
  | none => exact ⟨by decide, by decide⟩
  | some x => exact h x (List.mem_of_getElem? h0)
theorem reg0_ok {S args : List Int} (hS : Rok S) (ha : Rok args) : Rok (reg0 S args) := hS.app fun x hx => by
  obtain ⟨i, _, rfl⟩ := List.mem_map.1 hx
  exact getD_ok ha i
end Go.Pv
/- What may be a program never gets stuck. No condition. -/
namespace Go.Pv

theorem chkFrom_zero {p : List Ins} : ∀ (l : List Ins) (i : Nat), chkFrom p i l = 0 → fuelP p ≤ 200 ∧ ∀ j x, l[j]? = some x → chk1 p (i + j) x = 0
  | [], i, h => by
    simp only [chkFrom] at h
    split at h
    · cases h
    · exact ⟨by omega, fun j x hx => by simp at hx⟩
  | x :: l, i, h => by
    simp only [chkFrom] at h
    split at h
    · rename_i hne; exact absurd h hne
    · rename_i h0
      obtain ⟨h1, h2⟩ := chkFrom_zero l (i + 1) h
      refine ⟨h1, fun j y hy => ?_⟩
      cases j with
      | zero => simp at hy; subst hy; simpa using h0
      | succ j =>
        have := h2 j y (by simpa using hy)
        rwa [Nat.add_assoc, Nat.add_comm 1 j] at this
theorem checkP_zero {p : List Ins} (h : checkP p = 0) : p.length ≤ 24 ∧ fuelP p ≤ 200 ∧ ∀ i x, p[i]? = some x → chk1 p i x = 0 := by
  unfold checkP at h
  split at h
  · cases h
  · obtain ⟨h1, h2⟩ := chkFrom_zero p 0 h
    exact ⟨by omega, h1, fun i x hx => by simpa using h2 i x hx⟩
theorem chkFrom_of {p : List Ins} (hf : fuelP p ≤ 200) : ∀ (l : List Ins) (i : Nat), (∀ j x, l[j]? = some x → chk1 p (i + j) x = 0) → chkFrom p i l = 0
  | [], _, _ => if_neg (by omega)
  | x :: l, i, h => by
    have h0 := h 0 x rfl
    simp only [Nat.add_zero] at h0
    rw [chkFrom, if_neg (by rw [h0]; decide)]
    exact chkFrom_of hf l (i + 1) fun j y hy => by
      have := h (j + 1) y (by simpa using hy)
      rwa [Nat.add_assoc, Nat.add_comm 1 j]
theorem checkP_of {p : List Ins} (hl : p.length ≤ 24) (hf : fuelP p ≤ 200) (h : ∀ i x, p[i]? = some x → chk1 p i x = 0) : checkP p = 0 := by
  rw [checkP, if_neg (by omega)]
  exact chkFrom_of hf p 0 fun j x hx => by rw [Nat.zero_add]; exact h j x hx

/-- What is right of an instruction. -/
structure Ok1 (p : List Ins) (i : Nat) (x : Ins) : Prop where
  op : x.op < 12
  dst : x.dst < 16
  a : x.a < 16
  b : x.op ≠ 9 → x.b < 16
  loop : x.op = 9 → within p i = 0 ∧ 1 ≤ x.b ∧ bodyEnd p i ≤ p.length ∧ 1 ≤ x.n ∧ x.n ≤ 8
  skip : x.op = 8 → 1 ≤ x.n ∧ (i : Int) + 1 + x.n ≤ p.length ∧ (within p i > 0 → (i : Int) + 1 + x.n ≤ within p i) ∧ (within p i = 0 → within p (i + 1 + x.n.toNat) = 0)
  raise : x.op = 10 → 0 ≤ x.n
theorem chk1_zero {p : List Ins} {i : Nat} {x : Ins} : chk1 p i x = 0 ↔ Ok1 p i x := by
  unfold chk1
  constructor
  · intro h
    split at h
    · cases h
    split at h
    · cases h
    split at h
    · cases h
    split at h
    · cases h
    split at h
    · cases h
    rename_i h1 h2 h3 h4 h5
    exact ⟨by omega, by omega, by omega, fun _ => by omega, fun _ => by omega, fun _ => ⟨by omega, by omega, fun _ => by omega, fun hw => by
      by_cases hz : within p (i + 1 + x.n.toNat) = 0
      · exact hz
      · exact absurd ⟨by assumption, .inr (.inr (.inr ⟨hw, by omega⟩))⟩ h4⟩, fun _ => by omega⟩
  · rintro ⟨h1, h2, h3, h4, h5, h6, h7⟩
    rw [if_neg (by omega), if_neg (by
      rintro (h | h | ⟨h, h'⟩)
      · omega
      · omega
      · have := h4 h; omega), if_neg (by
      rintro ⟨h, h'⟩
      have := h5 h; omega), if_neg (by
      rintro ⟨h, h'⟩
      obtain ⟨k1, k2, k3, k4⟩ := h6 h
      rcases h' with h' | h' | ⟨h', h''⟩ | ⟨h', h''⟩
      · omega
      · omega
      · have := k3 h'; omega
      · have := k4 h'; omega), if_neg (by
      rintro ⟨h, h'⟩
      have := h7 h; omega)]

theorem within_pos {p : List Ins} {i k : Nat} (hk : k < min i p.length) (h : bodyEnd p k > i) : within p i > 0 := by
  unfold within
  cases hf : (List.range (min i p.length)).find? fun k => decide (bodyEnd p k > i) with
  | none =>
    rw [List.find?_eq_none] at hf
    have := hf k (List.mem_range.2 hk)
    simp at this
    omega
  | some j =>
    have := List.find?_some hf
    simp at this
    show bodyEnd p j > 0
    omega
theorem within_zero {p : List Ins} {i : Nat} (h : ∀ k, k < min i p.length → bodyEnd p k ≤ i) : within p i = 0 := by
  unfold within
  have : ((List.range (min i p.length)).find? fun k => decide (bodyEnd p k > i)) = none := by
    rw [List.find?_eq_none]
    intro k hk
    have := h k (List.mem_range.1 hk)
    simp; omega
  rw [this]; rfl
theorem within_zero_iff {p : List Ins} {i : Nat} : within p i = 0 ↔ ∀ k, k < min i p.length → bodyEnd p k ≤ i := by
  refine ⟨fun h k hk => ?_, within_zero⟩
  rcases Nat.lt_or_ge i (bodyEnd p k) with h1 | h1
  · have := within_pos hk h1; omega
  · exact h1

theorem rep_ok {g : List Int → Out} (h : ∀ R, g R ≠ .stuck) : ∀ (n : Nat) (R : List Int), rep g n R ≠ .stuck
  | 0, _ => fun h => by cases h
  | n + 1, R => by
    rw [rep]
    have hR := h R
    cases hg : g R with
    | done b R' =>
      cases b with
      | true => exact rep_ok h n R'
      | false => exact fun h => by cases h
    | fail e r => exact fun h => by cases h
    | stuck => exact absurd hg hR

/-- Straight on, but for skips. -/
theorem go_flat {p : List Ins} {args : List Int} {to : Nat} : ∀ (f i : Nat) (R : List Int), (∀ j, i ≤ j → j < to → ∃ x, p[j]? = some x ∧ x.dst < 16 ∧ x.a < 16 ∧ x.op ≠ 9 ∧ (x.op = 8 → 0 ≤ x.n)) → to - i < f → go p args f i to R ≠ .stuck
  | 0, _, _, _, h => by omega
  | f + 1, i, R, h, hf => by
    rw [go]
    split
    · rename_i hi
      obtain ⟨x, hx, h1, h2, h3, h4⟩ := h i (Nat.le_refl _) hi
      rw [hx]
      simp only
      rw [if_neg (by omega)]
      split
      · exact fun h => by cases h
      split
      · exact fun h => by cases h
      split
      · exact fun h => by cases h
      split
      · rename_i h8
        rw [if_neg (by have := h4 h8.1; omega)]
        exact go_flat f _ R (fun j hj hj' => h j (by omega) hj') (by omega)
      · exact go_flat f _ _ (fun j hj hj' => h j (by omega) hj') (by omega)
    · exact fun h => by cases h
theorem go_okF {p : List Ins} {args : List Int} (hb : ∀ x ∈ p, 0 ≤ x.b) (hok : ∀ i x, p[i]? = some x → Ok1 p i x) : ∀ (f i : Nat) (R : List Int), p.length - i < f → go p args f i p.length R ≠ .stuck
  | 0, _, _, h => by omega
  | f + 1, i, R, hf => by
    rw [go]
    split
    · rename_i hi
      have hx : p[i]? = some p[i] := List.getElem?_eq_getElem hi
      have hbx := hb p[i] (List.getElem_mem hi)
      have ho := hok i _ hx
      rw [hx]
      simp only
      generalize p[i] = x at *
      have h1 := ho.dst
      have h2 := ho.a
      rw [if_neg (by omega)]
      split
      · exact fun h => by cases h
      split
      · exact fun h => by cases h
      split
      · exact fun h => by cases h
      split
      · rename_i h9
        obtain ⟨l1, l2, l3, l4, l5⟩ := ho.loop h9
        have hbe : bodyEnd p i = i + 1 + x.b.toNat := by rw [bodyEnd, hx]; exact if_pos h9
        have hin : ∀ R, go p args f (i + 1) (i + 1 + x.b.toNat) R ≠ .stuck := fun R => go_flat f _ R (fun j hj hj' => by
          have hjl : j < p.length := by omega
          have hy : p[j]? = some p[j] := List.getElem?_eq_getElem hjl
          have hoy := hok j _ hy
          refine ⟨_, hy, hoy.dst, hoy.a, fun h9' => ?_, fun h8 => by have := hoy.skip h8; omega⟩
          have := within_pos (p := p) (i := j) (k := i) (by omega) (by omega)
          have := (hoy.loop h9').1
          omega) (by omega)
        have hr := rep_ok hin x.n.toNat R
        revert hr
        generalize rep (go p args f (i + 1) (i + 1 + x.b.toNat)) x.n.toNat R = o
        intro hr
        cases o with
        | done b R' =>
          cases b with
          | true => exact go_okF hb hok f _ _ (by omega)
          | false => exact fun h => by cases h
        | fail e r => exact fun h => by cases h
        | stuck => exact absurd rfl hr
      split
      · rename_i h8
        have := (ho.skip h8.1).1
        rw [if_neg (by omega)]
        exact go_okF hb hok f _ _ (by omega)
      · exact go_okF hb hok f _ _ (by omega)
    · exact fun h => by cases h
theorem go_ok {p : List Ins} (hp : ∀ x ∈ p, x.fit) (h : checkP p = 0) (args R : List Int) : go p args (p.length + 1) 0 p.length R ≠ .stuck :=
  go_okF (fun x hx => (hp x hx).b.1) (fun i x hx => chk1_zero.1 ((checkP_zero h).2.2 i x hx)) _ 0 R (by omega)

theorem sumOf_in (args : List Int) : -9223372036854775808 ≤ sumOf args ∧ sumOf args ≤ 9223372036854775807 := by
  rcases List.eq_nil_or_concat args with rfl | ⟨l, y, rfl⟩
  · exact ⟨by decide, by decide⟩
  · rw [List.concat_eq_append, sum_snoc]; exact w64_in _
theorem set_ok {R : List Int} (h : Rok R) (i : Nat) {v : Int} (hv : -9223372036854775808 ≤ v ∧ v ≤ 9223372036854775807) : Rok (R.set i v) := fun x hx => by
  rcases List.mem_or_eq_of_mem_set hx with h' | h'
  · exact h x h'
  · rw [h']; exact hv
theorem act_ok {x : Ins} (hx : x.fit) (args : List Int) {R : List Int} (h : Rok R) : Rok (act x args R) := by
  refine set_ok h _ ?_
  have ha : -9223372036854775808 ≤ rg R x.a ∧ rg R x.a ≤ 9223372036854775807 := getD_ok h _
  have hd : -9223372036854775808 ≤ rg R x.dst ∧ rg R x.dst ≤ 9223372036854775807 := getD_ok h _
  have hn := hx.n
  unfold actV
  repeat' split
  all_goals first | exact w64_in _ | exact ha | exact hd | exact sumOf_in _ | exact ⟨by decide, by decide⟩ | omega
theorem rep_rok {g : List Int → Out} (h : ∀ R b R', Rok R → g R = .done b R' → Rok R') : ∀ (n : Nat) (R : List Int) (b : Bool) (R' : List Int), Rok R → rep g n R = .done b R' → Rok R'
  | 0, R, b, R', hR, he => by cases he; exact hR
  | n + 1, R, b, R', hR, he => by
    rw [rep] at he
    split at he
    · rename_i R2 h2; exact rep_rok h n R2 b R' (h _ _ _ hR h2) he
    · exact h _ _ _ hR he
theorem go_rok {p : List Ins} (hp : ∀ x ∈ p, x.fit) {args : List Int} : ∀ (f i to : Nat) (R : List Int) (b : Bool) (R' : List Int), Rok R → go p args f i to R = .done b R' → Rok R'
  | 0, _, _, _, _, _, _, h => by cases h
  | f + 1, i, to, R, b, R', hR, h => by
    rw [go] at h
    split at h
    · split at h
      · cases h
      · rename_i x hx
        have hxf := hp x (List.mem_of_getElem? hx)
        split at h
        · cases h
        split at h
        · cases h; exact hR
        split at h
        · cases h
        split at h
        · cases h
        split at h
        · split at h
          · rename_i R2 h2
            exact go_rok hp f _ _ _ _ _ (rep_rok (fun R b R' => go_rok hp f _ _ R b R') _ _ _ _ hR h2) h
          · exact rep_rok (fun R b R' => go_rok hp f _ _ R b R') _ _ _ _ hR h
        split at h
        · split at h
          · cases h
          · exact go_rok hp f _ _ _ _ _ hR h
        · exact go_rok hp f _ _ _ _ _ (act_ok hxf args hR) h
    · cases h; exact hR
/-! One instruction. -/
section
variable {p : List Ins} {args R : List Int} {f i to : Nat} {x : Ins}
theorem go_raise (hi : i < to) (hx : p[i]? = some x) (hb : x.dst < 16 ∧ x.a < 16) (h : x.op = 10) (ha : rg R x.a ≠ 0) : go p args (f + 1) i to R = .fail 16 x.n := by
  rw [go, if_pos hi, hx]
  simp only
  rw [if_neg (by omega), if_neg (by omega), if_neg (by omega), if_pos ⟨h, ha⟩]
theorem go_div0 (hi : i < to) (hx : p[i]? = some x) (hb : x.dst < 16 ∧ x.a < 16) (h : x.op = 6) (ha : bOf x R = 0) : go p args (f + 1) i to R = .fail 14 0 := by
  rw [go, if_pos hi, hx]
  simp only
  rw [if_neg (by omega), if_neg (by omega), if_pos ⟨h, ha⟩]
theorem go_act (hi : i < to) (hx : p[i]? = some x) (hb : x.dst < 16 ∧ x.a < 16) (h0 : x.op ≠ 0) (h6 : x.op = 6 → bOf x R ≠ 0) (h8 : x.op = 8 → rg R x.a ≠ 0) (h9 : x.op ≠ 9) (h10 : x.op = 10 → rg R x.a = 0) : go p args (f + 1) i to R = go p args f (i + 1) to (act x args R) := by
  rw [go, if_pos hi, hx]
  simp only
  rw [if_neg (by omega), if_neg h0, if_neg (fun h => h6 h.1 h.2), if_neg (fun h => h.2 (h10 h.1)), if_neg h9, if_neg (fun h => h8 h.1 h.2)]
theorem go_end (hi : ¬ i < to) : go p args (f + 1) i to R = .done true R := by rw [go, if_neg hi]
end
end Go.Pv
