/- Values as data; what is built of numbers. No condition. -/
import Derived.Test.YtmcdhendjlijhaaD6
import Derived.Test.YtmcdhendjlijhaaD10
namespace Go.Pv

/-- A value: its number, its float's bits, its text, its parts. -/
inductive VT where
  | mk (n : Int) (f : Nat) (s : ByteArray) (of : List VT)
namespace VT
def n : VT → Int | mk n _ _ _ => n
def f : VT → Nat | mk _ f _ _ => f
def s : VT → ByteArray | mk _ _ s _ => s
def of : VT → List VT | mk _ _ _ o => o
end VT
theorem VT.ind {P : VT → Prop} (h : ∀ n f s o, (∀ x ∈ o, P x) → P (.mk n f s o)) : ∀ t, P t
  | .mk n f s o => h n f s o fun x _ => VT.ind h x
mutual
def VT.row : VT → List Dat
  | .mk n f s o => [.int .i64 n, .flt .f64 f, .str s, .sl (VT.rows o)]
def VT.rows : List VT → List (List Dat)
  | [] => []
  | t :: ts => t.row :: VT.rows ts
end
theorem VT.rows_map : ∀ l, VT.rows l = l.map VT.row
  | [] => rfl
  | t :: ts => by simp [VT.rows, VT.rows_map ts]
theorem VT.row_len : ∀ t : VT, t.row.length = 4 | .mk .. => rfl
def VT.av (t : VT) : AV := .agg (t.row.map .d)
def VT.cs (t : VT) : List Dat := [.int .i64 t.n, .flt .f64 t.f, .str t.s, .sl (t.of.map VT.row)]
theorem VT.row_eq (t : VT) : t.row = t.cs := by
  obtain ⟨n, f, s, o⟩ := t
  simp [VT.row, VT.cs, VT.rows_map, VT.n, VT.f, VT.s, VT.of]
theorem VT.av_eq (t : VT) : t.av = .agg [.d (.int .i64 t.n), .d (.flt .f64 t.f), .d (.str t.s), .d (.sl (t.of.map VT.row))] := by
  rw [VT.av, VT.row_eq]; rfl
theorem VT.row_av (t : VT) : t.row.map AV.d = [.d (.int .i64 t.n), .d (.flt .f64 t.f), .d (.str t.s), .d (.sl (t.of.map VT.row))] := by rw [VT.row_eq]; rfl
def VT.zero : VT := .mk 0 0 (bs []) []
def VT.num (n : Int) : VT := .mk n 0 (bs []) []
abbrev i64s (l : List Int) : Dat := .sl (l.map fun n => [.int .i64 n])

/-- The next number, round and round. -/
def nextN (l : List Int) (at_ : Nat) : Int := if l.length = 0 then 0 else l.getD (at_ % l.length) 0
def nextA (l : List Int) (at_ : Nat) : Nat := if l.length = 0 then at_ else at_ + 1
/-- The letters of a text. -/
def letters (n : Nat) : ByteArray := ⟨((List.range n).map fun i => UInt8.ofNat (97 + i % 26)).toArray⟩
/-- A value of a type, of numbers, so deep; where it is in the numbers; how many were begun. -/
structure Made where
  v : VT
  at_ : Nat
  made : Nat
def foldB (f : KT → Nat → Nat → Made) : List KT → Nat → Nat → List VT × Nat × Nat
  | [], a, m => ([], a, m)
  | t :: ts, a, m => let x := f t a m; let r := foldB f ts x.at_ x.made; (x.v :: r.1, r.2)
def buildM (l : List Int) : Nat → KT → Nat → Nat → Made
  | 0, _, a, m => ⟨VT.zero, a, m + 1⟩
  | d + 1, t, a, m =>
    if t.kind = 0 then ⟨VT.num (nextN l a % 2), nextA l a, m + 1⟩
    else if t.kind = 1 then ⟨VT.num (nextN l a % 65536), nextA l a, m + 1⟩
    else if t.kind = 2 then ⟨VT.num (IntKind.i64.wrap (IntKind.i32.wrap (nextN l a))), nextA l a, m + 1⟩
    else if t.kind = 3 then ⟨.mk 0 (FloatKind.f64.nearest (nextN l a)) (bs []) [], nextA l a, m + 1⟩
    else if t.kind = 4 then ⟨.mk 0 0 (letters (min (nextN l a % (min (max t.most 0) 9223372036854775806 + 1)) 60).toNat) [], nextA l a, m + 1⟩
    else if t.kind = 7 then ⟨VT.num (nextN l a % (max t.names.length 1 : Nat)), nextA l a, m + 1⟩
    else if t.kind = 5 then
      if m + 1 > 100 then ⟨VT.zero, a, m + 1⟩
      else
        ⟨.mk 0 0 (bs []) (foldB (buildM l d) (List.replicate (min (min (nextN l a % 4) t.most) (4 * t.of.length)).toNat (t.of.getD 0 (.mk 0 0 [] []))) (nextA l a) (m + 1)).1, (foldB (buildM l d) (List.replicate (min (min (nextN l a % 4) t.most) (4 * t.of.length)).toNat (t.of.getD 0 (.mk 0 0 [] []))) (nextA l a) (m + 1)).2.1, (foldB (buildM l d) (List.replicate (min (min (nextN l a % 4) t.most) (4 * t.of.length)).toNat (t.of.getD 0 (.mk 0 0 [] []))) (nextA l a) (m + 1)).2.2⟩
    else if t.kind = 6 then
      ⟨.mk 0 0 (bs []) (foldB (buildM l d) t.of a (m + 1)).1, (foldB (buildM l d) t.of a (m + 1)).2.1, (foldB (buildM l d) t.of a (m + 1)).2.2⟩
    else if t.kind = 8 then
      if t.of.length = 0 then ⟨VT.zero, a, m + 1⟩
      else
        ⟨.mk (nextN l a % t.of.length) 0 (bs []) [(buildM l d (t.of.getD (nextN l a % t.of.length).toNat (.mk 0 0 [] [])) (nextA l a) (m + 1)).v], (buildM l d (t.of.getD (nextN l a % t.of.length).toNat (.mk 0 0 [] [])) (nextA l a) (m + 1)).at_, (buildM l d (t.of.getD (nextN l a % t.of.length).toNat (.mk 0 0 [] [])) (nextA l a) (m + 1)).made⟩
    else ⟨VT.zero, a, m + 1⟩
/-- How many values a type makes at most. -/
def cost : Nat → KT → Nat
  | 0, _ => 1
  | d + 1, t => 1 + 4 * (t.of.map (cost d)).sum
/-- No length below nought, so deep. -/
def posd : Nat → KT → Prop
  | 0, _ => True
  | d + 1, t => 0 ≤ t.most ∧ ∀ o ∈ t.of, posd d o
theorem nextA_le (l : List Int) (a : Nat) : nextA l a ≤ a + 1 := by unfold nextA; split <;> omega
theorem foldB_snoc (f : KT → Nat → Nat → Made) : ∀ (ts : List KT) (t : KT) (a m : Nat), foldB f (ts ++ [t]) a m = ((foldB f ts a m).1 ++ [(f t (foldB f ts a m).2.1 (foldB f ts a m).2.2).v], (f t (foldB f ts a m).2.1 (foldB f ts a m).2.2).at_, (f t (foldB f ts a m).2.1 (foldB f ts a m).2.2).made)
  | [], t, a, m => rfl
  | u :: us, t, a, m => by simp only [List.cons_append, foldB, foldB_snoc f us]
theorem foldB_len (f : KT → Nat → Nat → Made) : ∀ (ts : List KT) (a m : Nat), (foldB f ts a m).1.length = ts.length
  | [], _, _ => rfl
  | t :: ts, a, m => by simp only [foldB, List.length_cons, foldB_len f ts]
theorem foldB_bound {f : KT → Nat → Nat → Made} {c : KT → Nat} : ∀ {ts : List KT} (_ : ∀ t ∈ ts, ∀ a m, a ≤ m → (f t a m).at_ ≤ (f t a m).made ∧ (f t a m).made ≤ m + c t) (a m : Nat), a ≤ m →
    (foldB f ts a m).2.1 ≤ (foldB f ts a m).2.2 ∧ (foldB f ts a m).2.2 ≤ m + (ts.map c).sum
  | [], _, a, m, h => ⟨h, by simp [foldB]⟩
  | t :: ts, hf, a, m, h => by
    obtain ⟨h1, h2⟩ := hf t List.mem_cons_self a m h
    obtain ⟨h3, h4⟩ := foldB_bound (fun u hu => hf u (List.mem_cons_of_mem _ hu)) _ _ h1
    simp only [foldB, List.map_cons, List.sum_cons]
    exact ⟨h3, by omega⟩
theorem le_sum {l : List Nat} {x : Nat} (h : x ∈ l) : x ≤ l.sum := by
  induction l with
  | nil => cases h
  | cons y l ih =>
    rw [List.sum_cons]
    rcases List.mem_cons.1 h with rfl | h
    · omega
    · have := ih h; omega
theorem sum_get {c : KT → Nat} {ts : List KT} {k : Nat} {y : KT} (h : ts[k]? = some y) : c y ≤ (ts.map c).sum := by
  obtain ⟨hk, rfl⟩ := List.getElem?_eq_some_iff.1 h
  exact le_sum (List.mem_map.2 ⟨_, List.getElem_mem hk, rfl⟩)
theorem buildM_bound (l : List Int) : ∀ (d : Nat) (t : KT) (a m : Nat), a ≤ m → (buildM l d t a m).at_ ≤ (buildM l d t a m).made ∧ (buildM l d t a m).made ≤ m + cost d t
  | 0, t, a, m, h => ⟨by simp only [buildM]; omega, by simp only [buildM, cost]; omega⟩
  | d + 1, t, a, m, h => by
    have hn := nextA_le l a
    have hc : 1 ≤ cost (d + 1) t := by simp only [cost]; omega
    have hz : ∀ v : VT, (⟨v, nextA l a, m + 1⟩ : Made).at_ ≤ (⟨v, nextA l a, m + 1⟩ : Made).made ∧ (⟨v, nextA l a, m + 1⟩ : Made).made ≤ m + cost (d + 1) t := fun v => ⟨by simp only; omega, by simp only; omega⟩
    have hz0 : ∀ v : VT, (⟨v, a, m + 1⟩ : Made).at_ ≤ (⟨v, a, m + 1⟩ : Made).made ∧ (⟨v, a, m + 1⟩ : Made).made ≤ m + cost (d + 1) t := fun v => ⟨by simp only; omega, by simp only; omega⟩
    have ih := fun (u : KT) a m (h : a ≤ m) => buildM_bound l d u a m h
    rw [buildM]
    by_cases h0 : t.kind = 0
    · rw [if_pos h0]; exact hz _
    rw [if_neg h0]
    by_cases h1 : t.kind = 1
    · rw [if_pos h1]; exact hz _
    rw [if_neg h1]
    by_cases h2 : t.kind = 2
    · rw [if_pos h2]; exact hz _
    rw [if_neg h2]
    by_cases h3 : t.kind = 3
    · rw [if_pos h3]; exact hz _
    rw [if_neg h3]
    by_cases h4 : t.kind = 4
    · rw [if_pos h4]; exact hz _
    rw [if_neg h4]
    by_cases h7 : t.kind = 7
    · rw [if_pos h7]; exact hz _
    rw [if_neg h7]
    by_cases h5 : t.kind = 5
    · rw [if_pos h5]
      by_cases hm : m + 1 > 100
      · rw [if_pos hm]; exact hz0 _
      · rw [if_neg hm]
        generalize hk : (min (min (nextN l a % 4) t.most) (4 * (t.of.length : Int))).toNat = k
        have hk3 : k ≤ 3 := by omega
        have hk0 : t.of.length = 0 → k = 0 := by omega
        obtain ⟨h1, h2⟩ := foldB_bound (c := cost d) (ts := List.replicate k (t.of.getD 0 (.mk 0 0 [] []))) (fun u _ a m h => ih u a m h) (nextA l a) (m + 1) (by omega)
        refine ⟨h1, Nat.le_trans h2 ?_⟩
        rw [List.map_replicate, List.sum_replicate_nat]
        simp only [cost]
        by_cases h0 : t.of.length = 0
        · rw [hk0 h0]; omega
        · obtain ⟨y, hy⟩ : ∃ y, t.of[0]? = some y := ⟨_, List.getElem?_eq_getElem (by omega)⟩
          have := sum_get (c := cost d) hy
          rw [List.getD_eq_getElem?_getD, hy, Option.getD_some]
          have : k * cost d y ≤ 3 * cost d y := Nat.mul_le_mul_right _ hk3
          omega
    rw [if_neg h5]
    by_cases h6 : t.kind = 6
    · rw [if_pos h6]
      obtain ⟨h1, h2⟩ := foldB_bound (c := cost d) (ts := t.of) (fun u _ a m h => ih u a m h) a (m + 1) (by omega)
      exact ⟨h1, by simp only [cost]; omega⟩
    rw [if_neg h6]
    by_cases h8 : t.kind = 8
    · rw [if_pos h8]
      by_cases h0 : t.of.length = 0
      · rw [if_pos h0]; exact hz0 _
      · rw [if_neg h0]
        have hkk : (nextN l a % (t.of.length : Int)).toNat < t.of.length := by
          have := Int.emod_lt_of_pos (nextN l a) (show (0 : Int) < t.of.length by omega)
          have := Int.emod_nonneg (nextN l a) (show (t.of.length : Int) ≠ 0 by omega)
          omega
        obtain ⟨y, hy⟩ : ∃ y, t.of[(nextN l a % (t.of.length : Int)).toNat]? = some y := ⟨_, List.getElem?_eq_getElem hkk⟩
        have := sum_get (c := cost d) hy
        obtain ⟨h1, h2⟩ := ih y (nextA l a) (m + 1) (by omega)
        rw [List.getD_eq_getElem?_getD, hy, Option.getD_some]
        exact ⟨h1, by simp only [cost]; omega⟩
    · rw [if_neg h8]; exact hz0 _

theorem KT.pj (k m : Int) (n : List ByteArray) (o : List KT) : (KT.mk k m n o).kind = k ∧ (KT.mk k m n o).most = m ∧ (KT.mk k m n o).names = n ∧ (KT.mk k m n o).of = o := ⟨rfl, rfl, rfl, rfl⟩
mutual
def KT.rrow : KT → List Dat
  | .mk k m n o => [.int .i64 k, .int .i64 m, .int .i64 n.length, .sl (KT.rrows o)]
def KT.rrows : List KT → List (List Dat)
  | [] => []
  | t :: ts => t.rrow :: KT.rrows ts
end
theorem KT.rrows_map : ∀ l, KT.rrows l = l.map KT.rrow
  | [] => rfl
  | t :: ts => by simp [KT.rrows, KT.rrows_map ts]
theorem KT.rrow_len : ∀ t : KT, t.rrow.length = 4 | .mk .. => rfl
def KT.rav (t : KT) : AV := .agg (t.rrow.map .d)
theorem KT.rrow_av (t : KT) : t.rrow.map AV.d = [.d (.int .i64 t.kind), .d (.int .i64 t.most), .d (.int .i64 t.names.length), .d (.sl (t.of.map KT.rrow))] := by
  obtain ⟨k, m, n, o⟩ := t
  simp [KT.rrow, KT.rrows_map, KT.kind, KT.most, KT.names, KT.of]
theorem KT.rav_eq (t : KT) : t.rav = .agg [.d (.int .i64 t.kind), .d (.int .i64 t.most), .d (.int .i64 t.names.length), .d (.sl (t.of.map KT.rrow))] := by
  rw [KT.rav, KT.rrow_av]
end Go.Pv
/- Values: the same, with a part turned. No condition. -/
namespace Go.Pv

/-- A float's bits, of any that is no number the same ones. -/
def fbits (b : Nat) : Int := if (FloatKind.f64.format.order b b != some Ordering.eq) = true then 9221120237041090560 else b
theorem VT.pj (n : Int) (f : Nat) (s : ByteArray) (o : List VT) : (VT.mk n f s o).n = n ∧ (VT.mk n f s o).f = f ∧ (VT.mk n f s o).s = s ∧ (VT.mk n f s o).of = o := ⟨rfl, rfl, rfl, rfl⟩
/-- What a value may be: so many parts at most. -/
inductive VT.fitB (B : Nat) : VT → Prop
  | mk {n : Int} {f : Nat} {s : ByteArray} {o : List VT} (hn : -9223372036854775808 ≤ n ∧ n ≤ 9223372036854775807) (hf : f < 2 ^ 64) (hs : s.size < 2 ^ 60) (hl : o.length < B) (ho : ∀ x ∈ o, VT.fitB B x) : VT.fitB B (.mk n f s o)
abbrev VT.fit : VT → Prop := VT.fitB (2 ^ 40)
theorem VT.fitB.len {B : Nat} {v : VT} (h : v.fitB B) : v.of.length < B := by cases h; assumption
theorem VT.fitB.num {B : Nat} {v : VT} (h : v.fitB B) : -9223372036854775808 ≤ v.n ∧ v.n ≤ 9223372036854775807 := by cases h; assumption
theorem VT.fitB.flt {B : Nat} {v : VT} (h : v.fitB B) : v.f < 2 ^ 64 := by cases h; assumption
theorem VT.fitB.txt {B : Nat} {v : VT} (h : v.fitB B) : v.s.size < 2 ^ 60 := by cases h; assumption
theorem VT.fitB.part {B : Nat} {v : VT} (h : v.fitB B) {x : VT} (hx : x ∈ v.of) : x.fitB B := by cases h; rename_i ho; exact ho x hx
theorem VT.fitB.of {B : Nat} {v : VT} (h1 : -9223372036854775808 ≤ v.n ∧ v.n ≤ 9223372036854775807) (h2 : v.f < 2 ^ 64) (h3 : v.s.size < 2 ^ 60) (h4 : v.of.length < B) (h5 : ∀ x ∈ v.of, x.fitB B) : v.fitB B := by
  obtain ⟨n, f, s, o⟩ := v
  exact .mk h1 h2 h3 h4 h5
theorem VT.fitB.mono {B C : Nat} (hBC : B ≤ C) {v : VT} (h : v.fitB B) : v.fitB C := by
  induction h with
  | mk hn hf hs hl _ ih => exact .mk hn hf hs (by omega) ih
theorem VT.fitB.fit {B : Nat} {v : VT} (h : v.fitB B) (hB : B ≤ 2 ^ 40) : v.fit := h.mono hB
mutual
def VT.same : VT → VT → Bool
  | .mk n f s o, .mk n' f' s' o' => (n == n') && (fbits f == fbits f') && (s.toList == s'.toList) && VT.sames o o'
def VT.sames : List VT → List VT → Bool
  | [], [] => true
  | x :: xs, y :: ys => VT.same x y && VT.sames xs ys
  | _, _ => false
end
theorem VT.sames_all : ∀ l k : List VT, VT.sames l k = eqAll VT.same l k
  | [], [] => rfl
  | x :: xs, y :: ys => by simp [VT.sames, eqAll, VT.sames_all xs ys]
  | [], y :: ys => rfl
  | x :: xs, [] => rfl
theorem VT.same_eq (x y : VT) : VT.same x y = ((x.n == y.n) && (fbits x.f == fbits y.f) && (x.s.toList == y.s.toList) && eqAll VT.same x.of y.of) := by
  obtain ⟨n, f, s, o⟩ := x; obtain ⟨n', f', s', o'⟩ := y
  simp only [VT.same, VT.sames_all, VT.n, VT.f, VT.s, VT.of]
theorem VT.same_refl (x : VT) : VT.same x x = true := by
  induction x using VT.ind with
  | h n f s o ih =>
    rw [VT.same_eq]
    simp only [beq_self_eq_true, Bool.true_and, VT.of]
    exact eqAll_all rfl fun i h1 _ => ih _ (List.getElem_mem h1)
/-- One thing of it is another. -/
def VT.leaf (v : VT) (what : Int) (n : Int) (f : Nat) (s : ByteArray) : VT :=
  if what % 5 = 0 then .mk n v.f v.s v.of
  else if what % 5 = 1 then .mk v.n f v.s v.of
  else if what % 5 = 2 then .mk v.n v.f s v.of
  else if what % 5 = 3 then .mk v.n v.f v.s (v.of ++ [VT.num n])
  else .mk v.n v.f v.s (v.of.take (v.of.length / 2))
/-- A value, one of its parts turned. -/
def VT.turned (what : Int) (n : Int) (f : Nat) (s : ByteArray) : List Int → VT → VT
  | [], v => v.leaf what n f s
  | p :: ps, v => if v.of.length = 0 then v.leaf what n f s else
    .mk v.n v.f v.s (v.of.set (p.toNat % v.of.length) (VT.turned what n f s ps (v.of.getD (p.toNat % v.of.length) VT.zero)))
theorem eqAll_set {α : Type} {e : α → α → Bool} (hr : ∀ x, e x x = true) (l : List α) {i : Nat} (hi : i < l.length) (x y : α) : eqAll e (l.set i x) (l.set i y) = e x y := by
  induction l generalizing i with
  | nil => exact absurd hi (Nat.not_lt_zero _)
  | cons z l ih =>
    cases i with
    | zero =>
      simp only [List.set_cons_zero, eqAll]
      rw [eqAll_all rfl fun i _ _ => hr _, Bool.and_true]
    | succ i =>
      simp only [List.set_cons_succ, eqAll, hr, Bool.true_and]
      exact ih (by simpa using hi)
/-- Of two that differ in one float: just as that float. -/
theorem VT.same_turned (n : Int) (f g : Nat) (s : ByteArray) : ∀ (path : List Int) (v : VT), VT.same (VT.turned 1 n f s path v) (VT.turned 1 n g s path v) = (fbits f == fbits g)
  | [], v => by
    rw [VT.same_eq]
    simp [VT.turned, VT.leaf, VT.n, VT.f, VT.s, VT.of, eqAll_all (e := VT.same) rfl fun i _ _ => VT.same_refl _]
  | p :: ps, v => by
    rw [VT.turned, VT.turned]
    by_cases h : v.of.length = 0
    · rw [if_pos h, if_pos h, VT.same_eq]
      simp [VT.leaf, VT.n, VT.f, VT.s, VT.of, eqAll_all (e := VT.same) rfl fun i _ _ => VT.same_refl _]
    · rw [if_neg h, if_neg h, VT.same_eq]
      simp only [VT.pj, beq_self_eq_true, Bool.true_and]
      rw [eqAll_set VT.same_refl _ (Nat.mod_lt _ (Nat.pos_of_ne_zero h)), VT.same_turned n f g s ps]
theorem VT.leaf_fit {B : Nat} (_hB : 0 < B) {what n : Int} {f : Nat} {s : ByteArray} (hn : -9223372036854775808 ≤ n ∧ n ≤ 9223372036854775807) (hf : f < 2 ^ 64) (hs : s.size < 2 ^ 60) {v : VT} (h : v.fitB B) : (v.leaf what n f s).fitB (B + 1) := by
  have h' := h.mono (Nat.le_succ B)
  have hl := h.len
  unfold VT.leaf
  repeat' split
  · exact .mk hn h'.flt h'.txt (by omega) fun x hx => h'.part hx
  · exact .mk h'.num hf h'.txt (by omega) fun x hx => h'.part hx
  · exact .mk h'.num h'.flt hs (by omega) fun x hx => h'.part hx
  · refine .mk h'.num h'.flt h'.txt (by rw [List.length_append, List.length_singleton]; omega) fun x hx => ?_
    rcases List.mem_append.1 hx with hx | hx
    · exact h'.part hx
    · rw [List.mem_singleton.1 hx]
      exact .mk hn (by decide) (by decide) (by simp) fun _ h => by cases h
  · exact .mk h'.num h'.flt h'.txt (by rw [List.length_take]; omega) fun x hx => h'.part (List.mem_of_mem_take hx)
theorem VT.turned_fit {B : Nat} (hB : 0 < B) {what n : Int} {f : Nat} {s : ByteArray} (hn : -9223372036854775808 ≤ n ∧ n ≤ 9223372036854775807) (hf : f < 2 ^ 64) (hs : s.size < 2 ^ 60) : ∀ (path : List Int) (v : VT), v.fitB B → (VT.turned what n f s path v).fitB (B + 1)
  | [], v, h => VT.leaf_fit hB hn hf hs h
  | p :: ps, v, h => by
    have h' := h.mono (Nat.le_succ B)
    have hl := h.len
    rw [VT.turned]
    split
    · exact VT.leaf_fit hB hn hf hs h
    · rename_i hne
      refine .mk h'.num h'.flt h'.txt (by rw [List.length_set]; omega) fun x hx => ?_
      rcases List.mem_or_eq_of_mem_set hx with hx | rfl
      · exact h'.part hx
      · refine VT.turned_fit hB hn hf hs ps _ ?_
        have hj : p.toNat % v.of.length < v.of.length := Nat.mod_lt _ (Nat.pos_of_ne_zero hne)
        rw [List.getD_eq_getElem?_getD, List.getElem?_eq_getElem hj]
        exact h.part (List.getElem_mem hj)
end Go.Pv
/- Floats by their bits: which are the same. No condition. -/
namespace Go.Pv
open Ieee

abbrev F64 : Format := FloatKind.f64.format
theorem f64_weight : F64.signWeight = 9223372036854775808 := by decide
theorem f64_binade : F64.binade = 4503599627370496 := by decide
theorem f64_inf : F64.infRung = 9218868437227405312 := by decide
theorem f64_least : F64.leastPlace = -1074 := by decide
/-- A float's sign; how far it is from nought, by words. -/
def fneg (b : Nat) : Bool := b / 9223372036854775808 % 2 == 1
def frung (b : Nat) : Nat := b % 9223372036854775808
def fnan (b : Nat) : Bool := decide (9218868437227405312 < frung b)
theorem fread_num {b : Nat} (h : frung b < 9218868437227405312) : ∃ m k : Nat, F64.read b = .number (fneg b) m (-1074 + k) ∧ m < 2 ^ 53 ∧ (k = 0 ∨ 2 ^ 52 ≤ m) ∧ frung b = k * 2 ^ 52 + m := by
  unfold Format.read
  simp only [f64_weight, f64_binade, f64_inf, f64_least]
  by_cases h1 : b % 9223372036854775808 < 4503599627370496
  · rw [if_pos h1]
    exact ⟨frung b, 0, by simp [frung, fneg], by unfold frung; omega, .inl rfl, by omega⟩
  · rw [if_neg h1, if_pos (show b % 9223372036854775808 < 9218868437227405312 from h)]
    refine ⟨4503599627370496 + frung b % 4503599627370496, frung b / 4503599627370496 - 1, by simp [frung, fneg], by omega, .inr (by omega), ?_⟩
    have : 4503599627370496 ≤ frung b := by unfold frung; omega
    omega
theorem fread_inf {b : Nat} (h : frung b = 9218868437227405312) : F64.read b = .infinity (fneg b) := by
  unfold Format.read
  simp only [f64_weight, f64_binade, f64_inf, f64_least]
  unfold frung at h
  rw [if_neg (by omega), if_neg (by omega), if_pos h]
  rfl
theorem fread_nan {b : Nat} (h : 9218868437227405312 < frung b) : ∃ s t, F64.read b = .nan s t := by
  unfold Format.read
  simp only [f64_weight, f64_binade, f64_inf, f64_least]
  unfold frung at h
  rw [if_neg (by omega), if_neg (by omega), if_neg (by omega)]
  exact ⟨_, _, rfl⟩
theorem signed_eq {s t : Bool} {m n a b : Nat} (h : signed s m a = signed t n b) : m * 2 ^ a = n * 2 ^ b ∧ (s = t ∨ m * 2 ^ a = 0) := by
  unfold signed at h
  rw [Nat.shiftLeft_eq, Nat.shiftLeft_eq] at h
  cases s <;> cases t <;> simp only [Bool.false_eq_true, if_true, if_false] at h <;> refine ⟨by omega, ?_⟩
  · exact .inl rfl
  · exact .inr (by omega)
  · exact .inr (by omega)
  · exact .inl rfl
theorem fword {x y : Nat} (hx : x < 2 ^ 64) (hy : y < 2 ^ 64) (h1 : fneg x = fneg y) (h2 : frung x = frung y) : x = y := by
  unfold fneg at h1
  unfold frung at h2
  have hx' : x / 9223372036854775808 < 2 := by omega
  have hy' : y / 9223372036854775808 < 2 := by omega
  rw [Nat.mod_eq_of_lt hx', Nat.mod_eq_of_lt hy'] at h1
  have h3 : x / 9223372036854775808 = y / 9223372036854775808 := by
    by_cases e1 : x / 9223372036854775808 = 1
    · rw [e1] at h1 ⊢
      have := (beq_iff_eq (a := y / 9223372036854775808) (b := 1)).1 (by rw [← h1]; rfl)
      omega
    · by_cases e2 : y / 9223372036854775808 = 1
      · rw [e2] at h1
        have := (beq_iff_eq (a := x / 9223372036854775808) (b := 1)).1 (by rw [h1]; rfl)
        omega
      · omega
  omega
theorem cmp_eq {a b : Int} : compare a b = Ordering.eq ↔ a = b := by
  constructor
  · intro h
    exact Std.LawfulEqOrd.eq_of_compare h
  · rintro rfl
    exact Std.ReflOrd.compare_self
/-- When two are equal. -/
theorem ford_eq {x y : Nat} (hx : x < 2 ^ 64) (hy : y < 2 ^ 64) : (F64.order x y = some .eq) ↔ fnan x = false ∧ fnan y = false ∧ (x = y ∨ (frung x = 0 ∧ frung y = 0)) := by
  have hle : ∀ b, frung b < 9223372036854775808 := fun b => Nat.mod_lt _ (by decide)
  unfold Format.order
  by_cases nx : fnan x = true
  · obtain ⟨s, t, e⟩ := fread_nan (b := x) (by simpa [fnan] using nx)
    rw [e, nx]
    simp [Datum.order]
  by_cases ny : fnan y = true
  · obtain ⟨s, t, e⟩ := fread_nan (b := y) (by simpa [fnan] using ny)
    rw [e, ny]
    cases F64.read x <;> simp [Datum.order]
  simp only [Bool.not_eq_true] at nx ny
  rw [nx, ny]
  simp only [true_and]
  have nx' : frung x ≤ 9218868437227405312 := by simpa [fnan] using nx
  have ny' : frung y ≤ 9218868437227405312 := by simpa [fnan] using ny
  by_cases ix : frung x = 9218868437227405312
  · rw [fread_inf ix]
    by_cases iy : frung y = 9218868437227405312
    · rw [fread_inf iy]
      simp only [Datum.order, Option.some.injEq]
      constructor
      · intro h
        left
        refine fword hx hy ?_ (by rw [ix, iy])
        generalize fneg x = s at *
        generalize fneg y = t at *
        revert h
        cases s <;> cases t <;> decide
      · rintro (rfl | ⟨h, _⟩)
        · cases fneg x <;> decide
        · omega
    · obtain ⟨m, k, e, _⟩ := fread_num (b := y) (by omega)
      rw [e]
      simp only [Datum.order, Option.some.injEq]
      constructor
      · intro h
        exfalso
        revert h
        cases fneg x <;> decide
      · rintro (rfl | ⟨h, _⟩)
        · exact absurd ix iy
        · omega
  · obtain ⟨m, k, e, h1, h2, h3⟩ := fread_num (b := x) (by omega)
    rw [e]
    by_cases iy : frung y = 9218868437227405312
    · rw [fread_inf iy]
      simp only [Datum.order, Option.some.injEq]
      constructor
      · intro h
        exfalso
        revert h
        cases fneg y <;> decide
      · rintro (rfl | ⟨_, h⟩)
        · exact absurd iy ix
        · omega
    · obtain ⟨n, j, e', g1, g2, g3⟩ := fread_num (b := y) (by omega)
      rw [e']
      simp only [Datum.order, Option.some.injEq]
      rw [cmp_eq]
      have ek : (-1074 + (k : Int) - min (-1074 + (k : Int)) (-1074 + (j : Int))).toNat = k - min k j := by omega
      have ej : (-1074 + (j : Int) - min (-1074 + (k : Int)) (-1074 + (j : Int))).toNat = j - min k j := by omega
      rw [ek, ej]
      constructor
      · intro h
        obtain ⟨q1, q2⟩ := signed_eq h
        have hkj : k = j ∧ m = n := by
          rcases Nat.lt_trichotomy k j with hlt | rfl | hlt
          · exfalso
            have e1 : k - min k j = 0 := by omega
            have e2 : j - min k j = (j - k - 1) + 1 := by omega
            rw [e1, e2, Nat.pow_succ, Nat.pow_zero, Nat.mul_one] at q1
            have : 1 ≤ 2 ^ (j - k - 1) := Nat.one_le_two_pow
            have : n * 1 ≤ n * 2 ^ (j - k - 1) := Nat.mul_le_mul_left _ this
            rw [← Nat.mul_assoc] at q1
            omega
          · refine ⟨rfl, ?_⟩
            have e1 : k - min k k = 0 := by omega
            rw [e1] at q1
            omega
          · exfalso
            have e1 : j - min k j = 0 := by omega
            have e2 : k - min k j = (k - j - 1) + 1 := by omega
            rw [e1, e2, Nat.pow_succ, Nat.pow_zero, Nat.mul_one] at q1
            have : 1 ≤ 2 ^ (k - j - 1) := Nat.one_le_two_pow
            have : m * 1 ≤ m * 2 ^ (k - j - 1) := Nat.mul_le_mul_left _ this
            rw [← Nat.mul_assoc] at q1
            omega
        obtain ⟨rfl, rfl⟩ := hkj
        rcases q2 with q2 | q2
        · exact .inl (fword hx hy q2 (by rw [h3, g3]))
        · right
          have e1 : k - min k k = 0 := by omega
          rw [e1] at q2
          have hm : m = 0 := by omega
          subst hm
          have hk : k = 0 := by omega
          subst hk
          exact ⟨by omega, by omega⟩
      · rintro (rfl | ⟨z1, z2⟩)
        · rw [e] at e'
          injection e' with _ em ek'
          have : k = j := by omega
          subst this
          subst em
          rfl
        · have : m = 0 ∧ k = 0 := by omega
          have h0 : n = 0 ∧ j = 0 := by omega
          obtain ⟨rfl, rfl⟩ := this
          obtain ⟨rfl, rfl⟩ := h0
          cases fneg x <;> cases fneg y <;> decide
theorem fself {x : Nat} (hx : x < 2 ^ 64) : (F64.order x x = some .eq) ↔ fnan x = false := by
  rw [ford_eq hx hx]; simp
theorem fbits_eq {x : Nat} (hx : x < 2 ^ 64) : fbits x = if fnan x = true then 9221120237041090560 else (x : Int) := by
  unfold fbits
  have := fself hx
  by_cases h : fnan x = true
  · rw [if_pos h, if_pos]
    have hne : F64.order x x ≠ some .eq := fun e => by rw [this.1 e] at h; cases h
    simpa using hne
  · rw [if_neg h, if_neg]
    have he : F64.order x x = some .eq := this.2 (by simpa using h)
    simp [he]
/-- One over a nought. -/
theorem fdiv_zero {x : Nat} (hx : x < 2 ^ 64) (h : frung x = 0) : F64.div 4607182418800017408 x = some (if fneg x = true then 18442240474082181120 else 9218868437227405312) := by
  have : x = 0 ∨ x = 9223372036854775808 := by unfold frung at h; omega
  rcases this with rfl | rfl
  · decide +kernel
  · decide +kernel
/-- Which floats are the same: as Go tells it. -/
theorem fsame {x y : Nat} (hx : x < 2 ^ 64) (hy : y < 2 ^ 64) : (fbits x == fbits y) = ((F64.order x x != some .eq) && (F64.order y y != some .eq) || ((F64.order x y == some .eq) && (!(frung x == 0) || (fneg x == fneg y)))) := by
  have e1 : (F64.order x x != some .eq) = fnan x := by
    have := fself hx
    cases h : fnan x
    · simp [this.2 h]
    · have hne : F64.order x x ≠ some .eq := fun e => by rw [this.1 e] at h; cases h
      simpa using hne
  have e2 : (F64.order y y != some .eq) = fnan y := by
    have := fself hy
    cases h : fnan y
    · simp [this.2 h]
    · have hne : F64.order y y ≠ some .eq := fun e => by rw [this.1 e] at h; cases h
      simpa using hne
  rw [e1, e2, fbits_eq hx, fbits_eq hy, Bool.eq_iff_iff]
  have h12 := ford_eq hx hy
  simp only [beq_iff_eq, Bool.or_eq_true, Bool.and_eq_true, Bool.not_eq_true', beq_eq_false_iff_ne]
  rw [h12]
  have hnan : ∀ b, fnan b = true → b ≠ 9221120237041090560 ∨ True := fun _ _ => .inr trivial
  have hnn : ∀ b, fnan b = false → b ≠ 9221120237041090560 := fun b hb e => by subst e; revert hb; decide
  cases hnx : fnan x <;> cases hny : fnan y
  · simp only [Bool.false_eq_true, if_false, false_and, true_and, false_or]
    constructor
    · intro h
      have : x = y := by omega
      subst this
      exact ⟨.inl rfl, .inr rfl⟩
    · rintro ⟨h | ⟨h1, h2⟩, h3⟩
      · rw [h]
      · rcases h3 with h3 | h3
        · exact absurd h1 h3
        · rw [fword hx hy h3 (by rw [h1, h2])]
  · have := hnn x hnx
    simp
    omega
  · have := hnn y hny
    simp
    omega
  · simp
end Go.Pv
/- Is a value one of a type? No condition. -/
namespace Go.Pv
def VT.plain (v : VT) : Bool := (fbits v.f == 0) && (v.s.toList == (bs []).toList) && ((v.of.length : Int) == 0)
def allZip (e : KT → VT → Bool) : List KT → List VT → Bool
  | t :: ts, x :: xs => e t x && allZip e ts xs
  | _, _ => true
def VT.is : Nat → KT → VT → Bool
  | 0, _, _ => false
  | d + 1, t, v =>
    if t.kind = 0 then v.plain && decide (v.n ≥ 0) && decide (v.n ≤ 1)
    else if t.kind = 1 then v.plain && decide (v.n ≥ 0) && decide (v.n ≤ 65535)
    else if t.kind = 2 then v.plain && decide (v.n ≥ -2147483648) && decide (v.n < 2147483648)
    else if t.kind = 3 then (v.n == 0) && (v.s.toList == (bs []).toList) && ((v.of.length : Int) == 0)
    else if t.kind = 4 then (v.n == 0) && (fbits v.f == 0) && ((v.of.length : Int) == 0) && decide ((v.s.size : Int) ≤ t.most)
    else if t.kind = 7 then v.plain && decide (v.n ≥ 0) && decide (v.n < t.names.length)
    else if ((fbits v.f != 0) || !(v.s.toList == (bs []).toList)) = true then false
    else if t.kind = 5 then
      if v.n ≠ 0 ∨ (v.of.length : Int) > t.most ∨ t.of.length ≠ 1 then false else v.of.all (VT.is d (t.of.getD 0 (.mk 0 0 [] [])))
    else if t.kind = 6 then
      if v.n ≠ 0 ∨ v.of.length ≠ t.of.length then false else allZip (VT.is d) t.of v.of
    else if t.kind = 8 then
      if 0 ≤ v.n ∧ v.n < t.of.length ∧ v.of.length = 1 then VT.is d (t.of.getD v.n.toNat (.mk 0 0 [] [])) (v.of.getD 0 VT.zero) else false
    else false
theorem allZip_drop {e : KT → VT → Bool} {ts : List KT} {xs : List VT} {i : Nat} {t : KT} {x : VT} (ht : ts[i]? = some t) (hx : xs[i]? = some x) : allZip e (ts.drop i) (xs.drop i) = (e t x && allZip e (ts.drop (i + 1)) (xs.drop (i + 1))) := by
  obtain ⟨h1, rfl⟩ := List.getElem?_eq_some_iff.1 ht
  obtain ⟨h2, rfl⟩ := List.getElem?_eq_some_iff.1 hx
  rw [List.drop_eq_getElem_cons h1, List.drop_eq_getElem_cons h2]; rfl
theorem allZip_nil (e : KT → VT → Bool) (ts : List KT) : allZip e ts [] = true := by cases ts <;> rfl
end Go.Pv
/- Whole types; what is built of them. No condition. -/
namespace Go.Pv
open Ieee

/-- A type that may be, without references, so deep. -/
inductive WT : Nat → KT → Prop
  | base (d : Nat) (k : Int) (hk : 0 ≤ k ∧ k ≤ 3) : WT (d + 1) (.mk k 0 [] [])
  | text (d : Nat) (m : Int) (hm : 1 ≤ m ∧ m ≤ 60) : WT (d + 1) (.mk 4 m [] [])
  | seq (d : Nat) (m : Int) (o : KT) (hm : 1 ≤ m ∧ m ≤ 60) (ho : WT d o) : WT (d + 1) (.mk 5 m [] [o])
  | reco (d : Nat) (k : Int) (n : List ByteArray) (o : List KT) (hk : k = 6 ∨ k = 8) (hl : 1 ≤ o.length ∧ o.length ≤ 3) (hn : n.length = o.length) (hf : fitS n) (ho : ∀ x ∈ o, WT d x) : WT (d + 1) (.mk k 0 n o)
  | enum (d : Nat) (n : List ByteArray) (hl : 1 ≤ n.length ∧ n.length ≤ 3) (hf : fitS n) : WT (d + 1) (.mk 7 0 n [])
theorem WT.of_typ {d : Nat} {t : Nd} (hd : 1 ≤ d) (ht : t.fit) : WT d (Nd.typ d t []) := by
  refine typ_ind (P := fun d x => WT d x) [] ?_ ?_ ?_ ?_ ?_ ?_ d t hd ht
  · intro d k h1 h2 h3
    obtain ⟨d, rfl⟩ : ∃ e, d = e + 1 := ⟨d - 1, by omega⟩
    exact .base d k ⟨h2, h3⟩
  · intro d m h1 h2 h3
    obtain ⟨d, rfl⟩ : ∃ e, d = e + 1 := ⟨d - 1, by omega⟩
    exact .text d m ⟨h2, h3⟩
  · intro d m o h1 h2 h3 h
    exact .seq d m o ⟨h2, h3⟩ h
  · intro d k n many sub h1 h2 h3 h4 h5 h6 h
    exact .reco d k _ _ h2 (by simp; omega) (by simp) (fitS_names h6) fun x hx => by
      obtain ⟨i, hi, rfl⟩ := List.mem_map.1 hx
      exact h i (by simpa using hi)
  · intro d n many h1 h2 h3 h4 h5
    obtain ⟨d, rfl⟩ : ∃ e, d = e + 1 := ⟨d - 1, by omega⟩
    exact .enum d _ (by simp; omega) (fitS_names h5)
  · intro d i hi
    exact absurd hi (Nat.not_lt_zero _)
theorem WT.fit {d : Nat} {x : KT} (h : WT d x) : x.fit := by
  induction h with
  | base => exact ⟨fitS_nil, (show 0 < 2 ^ 40 by decide), trivial⟩
  | text => exact ⟨fitS_nil, (show 0 < 2 ^ 40 by decide), trivial⟩
  | seq _ _ _ _ _ ih => exact ⟨fitS_nil, (show 1 < 2 ^ 40 by decide), ih, trivial⟩
  | reco _ _ _ _ _ hl _ hf _ ih => exact ⟨hf, by omega, fits_of ih⟩
  | enum _ _ _ hf => exact ⟨hf, (show 0 < 2 ^ 40 by decide), trivial⟩
theorem WT.kind_in {d : Nat} {x : KT} (h : WT d x) : 0 ≤ x.kind ∧ x.kind ≤ 8 := by
  cases h with
  | base _ k hk => exact ⟨hk.1, show k ≤ 8 by omega⟩
  | text => exact ⟨show (0 : Int) ≤ 4 by decide, show (4 : Int) ≤ 8 by decide⟩
  | seq => exact ⟨show (0 : Int) ≤ 5 by decide, show (5 : Int) ≤ 8 by decide⟩
  | reco _ k _ _ hk => exact ⟨show 0 ≤ k by omega, show k ≤ 8 by omega⟩
  | enum => exact ⟨show (0 : Int) ≤ 7 by decide, show (7 : Int) ≤ 8 by decide⟩
theorem WT.part {d : Nat} {x : KT} (h : WT (d + 1) x) {o : KT} (ho : o ∈ x.of) : WT d o := by
  cases h with
  | base => cases ho
  | text => cases ho
  | seq _ _ u _ hu => rw [List.mem_singleton.1 ho]; exact hu
  | reco _ _ _ _ _ _ _ _ hu => exact hu _ ho
  | enum => cases ho
theorem KT.rrow_eq (t : KT) : t.rrow = [.int .i64 t.kind, .int .i64 t.most, .int .i64 t.names.length, .sl (t.of.map KT.rrow)] := by
  obtain ⟨k, m, n, o⟩ := t
  simp [KT.rrow, KT.rrows_map, KT.kind, KT.most, KT.names, KT.of]
theorem cost_nil (e : Nat) {k m : Int} {n : List ByteArray} : cost e (.mk k m n []) = 1 := by cases e <;> rfl
theorem sum_le {l : List Nat} {c : Nat} (h : ∀ x ∈ l, x ≤ c) : l.sum ≤ l.length * c := by
  induction l with
  | nil => simp
  | cons x l ih =>
    have := h x List.mem_cons_self
    have := ih fun y hy => h y (List.mem_cons_of_mem _ hy)
    rw [List.sum_cons, List.length_cons, Nat.succ_mul]; omega
theorem WT.cost {d : Nat} {x : KT} (h : WT d x) : ∀ e, Pv.cost e x ≤ 13 ^ d := by
  have h1 : ∀ d : Nat, 1 ≤ 13 ^ d := fun d => Nat.one_le_pow _ _ (by decide)
  induction h with
  | base => intro e; rw [cost_nil]; exact h1 _
  | text => intro e; rw [cost_nil]; exact h1 _
  | enum => intro e; rw [cost_nil]; exact h1 _
  | seq d m o _ _ ih =>
    intro e
    cases e with
    | zero => exact h1 _
    | succ e =>
      have := ih e
      have := h1 d
      simp only [Pv.cost, KT.of, List.map_cons, List.map_nil, List.sum_cons, List.sum_nil, Nat.pow_succ]
      omega
  | reco d k n o _ hl _ _ _ ih =>
    intro e
    cases e with
    | zero => exact h1 _
    | succ e =>
      have := sum_le (l := o.map (Pv.cost e)) (c := 13 ^ d) (fun y hy => by
        obtain ⟨z, hz, rfl⟩ := List.mem_map.1 hy
        exact ih z hz e)
      have := h1 d
      have : o.length * 13 ^ d ≤ 3 * 13 ^ d := Nat.mul_le_mul_right _ hl.2
      rw [List.length_map] at *
      simp only [Pv.cost, KT.of, Nat.pow_succ]
      omega
theorem WT.posd {d : Nat} {x : KT} (h : WT d x) : ∀ e, Pv.posd e x := by
  induction h with
  | base => intro e; cases e; exact trivial; exact ⟨Int.le_refl _, fun _ h => by cases h⟩
  | text _ m hm => intro e; cases e; exact trivial; exact ⟨show 0 ≤ m by omega, fun _ h => by cases h⟩
  | enum => intro e; cases e; exact trivial; exact ⟨Int.le_refl _, fun _ h => by cases h⟩
  | seq _ m _ hm _ ih => intro e; cases e; exact trivial; exact ⟨show 0 ≤ m by omega, fun _ h => by rw [List.mem_singleton.1 h]; exact ih _⟩
  | reco _ _ _ _ _ _ _ _ _ ih => intro e; cases e; exact trivial; exact ⟨Int.le_refl _, fun x h => ih x h _⟩

theorem near_lt (n : Int) : FloatKind.f64.nearest n < 2 ^ 64 := by
  have h : ∀ (s : Bool) (r : Nat), r ≤ 9218868437227405312 → F64.word s r < 2 ^ 64 := by
    intro s r hr
    unfold Format.word
    rw [f64_weight]
    split <;> omega
  unfold FloatKind.nearest FloatKind.encode Format.write
  show Format.nearest F64 _ _ _ < _
  unfold Format.nearest
  split
  · exact h _ _ (by decide)
  · exact h _ _ (by rw [f64_inf]; exact Nat.min_le_right _ _)
theorem letters_size (n : Nat) : (letters n).size = n := by simp [letters, ByteArray.size]
theorem fit_num {n : Int} (h : -9223372036854775808 ≤ n ∧ n ≤ 9223372036854775807) : (VT.num n).fit := .mk h (by decide) (by decide) (by decide) fun _ h => by cases h
theorem fit_zero : VT.zero.fit := .mk (by decide) (by decide) (by decide) (by decide) fun _ h => by cases h
theorem foldB_all {f : KT → Nat → Nat → Made} {P : VT → Prop} : ∀ {ts : List KT} (_ : ∀ t ∈ ts, ∀ a m, P (f t a m).v) (a m : Nat), ∀ v ∈ (foldB f ts a m).1, P v
  | [], _, _, _, v, hv => by cases hv
  | t :: ts, hf, a, m, v, hv => by
    simp only [foldB, List.mem_cons] at hv
    rcases hv with rfl | hv
    · exact hf t List.mem_cons_self _ _
    · exact foldB_all (fun u hu => hf u (List.mem_cons_of_mem _ hu)) _ _ v hv
theorem nextN_in {l : List Int} (hr : ∀ x ∈ l, -9223372036854775808 ≤ x ∧ x ≤ 9223372036854775807) (a : Nat) : -9223372036854775808 ≤ nextN l a ∧ nextN l a ≤ 9223372036854775807 := by
  unfold nextN
  split
  · decide
  · rename_i h
    rw [List.getD_eq_getElem?_getD, List.getElem?_eq_getElem (Nat.mod_lt _ (by omega))]
    exact hr _ (List.getElem_mem _)
theorem buildM_fit {l : List Int} (hr : ∀ x ∈ l, -9223372036854775808 ≤ x ∧ x ≤ 9223372036854775807) : ∀ (d : Nat) (t : KT) (a m : Nat), t.fit → ((buildM l d t a m).v).fit
  | 0, t, a, m, _ => by simp only [buildM]; exact fit_zero
  | d + 1, t, a, m, ht => by
    have hn := nextN_in hr a
    obtain ⟨hf1, hf2, hf3⟩ := (KT.fit_eq t).1 ht
    have ih := fun u a m (h : KT.fit u) => buildM_fit hr d u a m h
    have hz : KT.fit (.mk 0 0 [] []) := ⟨fitS_nil, (show 0 < 2 ^ 40 by decide), trivial⟩
    have hget : ∀ i : Nat, (t.of.getD i (.mk 0 0 [] [])).fit := fun i => by
      rw [List.getD_eq_getElem?_getD]
      cases e : t.of[i]? with
      | none => exact hz
      | some y => exact hf3 y (List.mem_of_getElem? e)
    rw [buildM]
    repeat' split
    · exact fit_num (by omega)
    · exact fit_num (by omega)
    · exact fit_num (by rw [IntKind.wrap_i64]; omega)
    · exact .mk (by decide) (near_lt _) (by decide) (by decide) fun _ h => by cases h
    · exact .mk (by decide) (by decide) (by rw [letters_size]; omega) (by decide) fun _ h => by cases h
    · have h1 : t.names.length < 2 ^ 40 := hf1.1
      have := Int.emod_lt_of_pos (nextN l a) (show (0 : Int) < (max t.names.length 1 : Nat) by omega)
      have := Int.emod_nonneg (nextN l a) (show ((max t.names.length 1 : Nat) : Int) ≠ 0 by omega)
      exact fit_num (by omega)
    · exact fit_zero
    · refine .mk (by decide) (by decide) (by decide) ?_ (foldB_all (P := VT.fit) (fun u hu a m => ?_) _ _)
      · rw [foldB_len, List.length_replicate]; omega
      · rw [(List.mem_replicate.1 hu).2]
        exact ih _ _ _ (hget 0)
    · exact .mk (by decide) (by decide) (by decide) (by rw [foldB_len]; exact hf2) (foldB_all (P := VT.fit) (fun u hu a m => ih u a m (hf3 u hu)) _ _)
    · exact fit_zero
    · have := Int.emod_lt_of_pos (nextN l a) (show (0 : Int) < t.of.length by omega)
      have := Int.emod_nonneg (nextN l a) (show (t.of.length : Int) ≠ 0 by omega)
      refine .mk (by omega) (by decide) (by decide) (show 1 < 2 ^ 40 by decide) fun v hv => ?_
      rw [List.mem_singleton.1 hv]
      exact ih _ _ _ (hget _)
    · exact fit_zero
def buildV (l : List Int) (t : KT) : VT := (buildM l 20 t 0 0).v
theorem buildV_fit {l : List Int} (hr : ∀ x ∈ l, -9223372036854775808 ≤ x ∧ x ≤ 9223372036854775807) {t : KT} (ht : t.fit) : (buildV l t).fit := buildM_fit hr 20 t 0 0 ht
theorem buildM_0 {l : List Int} {d a m : Nat} {t : KT} (h : t.kind = 0) : buildM l (d + 1) t a m = ⟨VT.num (nextN l a % 2), nextA l a, m + 1⟩ := by
  rw [buildM, if_pos h]
theorem buildM_1 {l : List Int} {d a m : Nat} {t : KT} (h : t.kind = 1) : buildM l (d + 1) t a m = ⟨VT.num (nextN l a % 65536), nextA l a, m + 1⟩ := by
  rw [buildM, if_neg (show ¬ t.kind = 0 by omega), if_pos h]
theorem buildM_2 {l : List Int} {d a m : Nat} {t : KT} (h : t.kind = 2) : buildM l (d + 1) t a m = ⟨VT.num (IntKind.i64.wrap (IntKind.i32.wrap (nextN l a))), nextA l a, m + 1⟩ := by
  rw [buildM, if_neg (show ¬ t.kind = 0 by omega), if_neg (show ¬ t.kind = 1 by omega), if_pos h]
theorem buildM_3 {l : List Int} {d a m : Nat} {t : KT} (h : t.kind = 3) : buildM l (d + 1) t a m = ⟨.mk 0 (FloatKind.f64.nearest (nextN l a)) (bs []) [], nextA l a, m + 1⟩ := by
  rw [buildM, if_neg (show ¬ t.kind = 0 by omega), if_neg (show ¬ t.kind = 1 by omega), if_neg (show ¬ t.kind = 2 by omega), if_pos h]
theorem buildM_4 {l : List Int} {d a m : Nat} {t : KT} (h : t.kind = 4) : buildM l (d + 1) t a m = ⟨.mk 0 0 (letters (min (nextN l a % (min (max t.most 0) 9223372036854775806 + 1)) 60).toNat) [], nextA l a, m + 1⟩ := by
  rw [buildM, if_neg (show ¬ t.kind = 0 by omega), if_neg (show ¬ t.kind = 1 by omega), if_neg (show ¬ t.kind = 2 by omega), if_neg (show ¬ t.kind = 3 by omega), if_pos h]
theorem buildM_7 {l : List Int} {d a m : Nat} {t : KT} (h : t.kind = 7) : buildM l (d + 1) t a m = ⟨VT.num (nextN l a % (max t.names.length 1 : Nat)), nextA l a, m + 1⟩ := by
  rw [buildM, if_neg (show ¬ t.kind = 0 by omega), if_neg (show ¬ t.kind = 1 by omega), if_neg (show ¬ t.kind = 2 by omega), if_neg (show ¬ t.kind = 3 by omega), if_neg (show ¬ t.kind = 4 by omega), if_pos h]
theorem buildM_5 {l : List Int} {d a m : Nat} {t : KT} (h : t.kind = 5) (hm : m + 1 ≤ 100) : buildM l (d + 1) t a m = ⟨.mk 0 0 (bs []) (foldB (buildM l d) (List.replicate (min (min (nextN l a % 4) t.most) (4 * t.of.length)).toNat (t.of.getD 0 (.mk 0 0 [] []))) (nextA l a) (m + 1)).1, (foldB (buildM l d) (List.replicate (min (min (nextN l a % 4) t.most) (4 * t.of.length)).toNat (t.of.getD 0 (.mk 0 0 [] []))) (nextA l a) (m + 1)).2.1, (foldB (buildM l d) (List.replicate (min (min (nextN l a % 4) t.most) (4 * t.of.length)).toNat (t.of.getD 0 (.mk 0 0 [] []))) (nextA l a) (m + 1)).2.2⟩ := by
  rw [buildM, if_neg (show ¬ t.kind = 0 by omega), if_neg (show ¬ t.kind = 1 by omega), if_neg (show ¬ t.kind = 2 by omega), if_neg (show ¬ t.kind = 3 by omega), if_neg (show ¬ t.kind = 4 by omega), if_neg (show ¬ t.kind = 7 by omega), if_pos h, if_neg (show ¬ m + 1 > 100 by omega)]
theorem buildM_5n {l : List Int} {d a m : Nat} {t : KT} (h : t.kind = 5) (hm : 100 < m + 1) : buildM l (d + 1) t a m = ⟨VT.zero, a, m + 1⟩ := by
  rw [buildM, if_neg (show ¬ t.kind = 0 by omega), if_neg (show ¬ t.kind = 1 by omega), if_neg (show ¬ t.kind = 2 by omega), if_neg (show ¬ t.kind = 3 by omega), if_neg (show ¬ t.kind = 4 by omega), if_neg (show ¬ t.kind = 7 by omega), if_pos h, if_pos hm]
theorem buildM_6 {l : List Int} {d a m : Nat} {t : KT} (h : t.kind = 6) : buildM l (d + 1) t a m = ⟨.mk 0 0 (bs []) (foldB (buildM l d) t.of a (m + 1)).1, (foldB (buildM l d) t.of a (m + 1)).2.1, (foldB (buildM l d) t.of a (m + 1)).2.2⟩ := by
  rw [buildM, if_neg (show ¬ t.kind = 0 by omega), if_neg (show ¬ t.kind = 1 by omega), if_neg (show ¬ t.kind = 2 by omega), if_neg (show ¬ t.kind = 3 by omega), if_neg (show ¬ t.kind = 4 by omega), if_neg (show ¬ t.kind = 7 by omega), if_neg (show ¬ t.kind = 5 by omega), if_pos h]
theorem buildM_8 {l : List Int} {d a m : Nat} {t : KT} (h : t.kind = 8) (h0 : t.of.length ≠ 0) : buildM l (d + 1) t a m = ⟨.mk (nextN l a % t.of.length) 0 (bs []) [(buildM l d (t.of.getD (nextN l a % t.of.length).toNat (.mk 0 0 [] [])) (nextA l a) (m + 1)).v], (buildM l d (t.of.getD (nextN l a % t.of.length).toNat (.mk 0 0 [] [])) (nextA l a) (m + 1)).at_, (buildM l d (t.of.getD (nextN l a % t.of.length).toNat (.mk 0 0 [] [])) (nextA l a) (m + 1)).made⟩ := by
  rw [buildM, if_neg (show ¬ t.kind = 0 by omega), if_neg (show ¬ t.kind = 1 by omega), if_neg (show ¬ t.kind = 2 by omega), if_neg (show ¬ t.kind = 3 by omega), if_neg (show ¬ t.kind = 4 by omega), if_neg (show ¬ t.kind = 7 by omega), if_neg (show ¬ t.kind = 5 by omega), if_neg (show ¬ t.kind = 6 by omega), if_pos h, if_neg h0]
/-- Of a whole type: few parts. -/
theorem buildM_few {l : List Int} (hr : ∀ x ∈ l, -9223372036854775808 ≤ x ∧ x ≤ 9223372036854775807) {e : Nat} {t : KT} (ht : WT e t) : ∀ (d a m : Nat), ((buildM l d t a m).v).fitB 4 := by
  have z4 : VT.zero.fitB 4 := .mk (by decide) (by decide) (by decide) (by decide) fun _ h => by cases h
  have n4 : ∀ {n : Int}, -9223372036854775808 ≤ n ∧ n ≤ 9223372036854775807 → (VT.num n).fitB 4 := fun h => .mk h (by decide) (by decide) (by decide) fun _ h => by cases h
  induction ht with
  | base e k hk =>
    intro d a m
    cases d with
    | zero => exact z4
    | succ d =>
      have hn := nextN_in hr a
      have : k = 0 ∨ k = 1 ∨ k = 2 ∨ k = 3 := by omega
      rcases this with rfl | rfl | rfl | rfl
      · exact n4 (by omega)
      · exact n4 (by omega)
      · exact n4 (by rw [IntKind.wrap_i64]; omega)
      · exact .mk (by decide) (near_lt _) (by decide) (by decide) fun _ h => by cases h
  | text e k hk =>
    intro d a m
    cases d with
    | zero => exact z4
    | succ d => exact .mk (by decide) (by decide) (by rw [letters_size]; omega) (by decide) fun _ h => by cases h
  | seq e k o hk ho ih =>
    intro d a m
    cases d with
    | zero => exact z4
    | succ d =>
      by_cases hm : m + 1 ≤ 100
      · rw [buildM_5 rfl hm]
        refine .mk (by decide) (by decide) (by decide) (by rw [foldB_len, List.length_replicate]; omega) (foldB_all (P := VT.fitB 4) (fun u hu a m => ?_) _ _)
        rw [(List.mem_replicate.1 hu).2]
        exact ih _ _ _
      · rw [buildM_5n rfl (by omega)]
        exact z4
  | reco e k n o hk hl hn hf ho ih =>
    intro d a m
    cases d with
    | zero => exact z4
    | succ d =>
      rcases hk with rfl | rfl
      · rw [buildM_6 rfl]
        exact .mk (by decide) (by decide) (by decide) (by rw [foldB_len]; exact Nat.lt_succ_of_le hl.2) (foldB_all (P := VT.fitB 4) (fun u hu a m => ih u hu _ _ _) _ _)
      · have h0 : (KT.mk 8 0 n o).of.length ≠ 0 := show o.length ≠ 0 by omega
        rw [buildM_8 rfl h0]
        have h1 := Int.emod_lt_of_pos (nextN l a) (show (0 : Int) < o.length by omega)
        have h2 := Int.emod_nonneg (nextN l a) (show (o.length : Int) ≠ 0 by omega)
        refine .mk ⟨show _ ≤ nextN l a % (o.length : Int) by omega, show nextN l a % (o.length : Int) ≤ _ by omega⟩ (by decide) (by decide) (by simp) fun v hv => ?_
        rw [List.mem_singleton.1 hv]
        have hj : (nextN l a % (o.length : Int)).toNat < o.length := by omega
        show ((buildM l d (o.getD (nextN l a % (o.length : Int)).toNat _) _ _).v).fitB 4
        rw [List.getD_eq_getElem?_getD, List.getElem?_eq_getElem hj]
        exact ih _ (List.getElem_mem hj) _ _ _
  | enum e n hl hf =>
    intro d a m
    cases d with
    | zero => exact z4
    | succ d =>
      rw [buildM_7 rfl]
      have := Int.emod_lt_of_pos (nextN l a) (show (0 : Int) < (max n.length 1 : Nat) by omega)
      have := Int.emod_nonneg (nextN l a) (show ((max n.length 1 : Nat) : Int) ≠ 0 by omega)
      exact n4 ⟨show _ ≤ nextN l a % ((max n.length 1 : Nat) : Int) by omega, show nextN l a % ((max n.length 1 : Nat) : Int) ≤ _ by omega⟩
end Go.Pv
/- A float as a whole number; a value's numbers. No condition. -/
namespace Go.Pv
open Ieee

abbrev farB : Nat := 4746794007248502784
abbrev nfarB : Nat := 13970166044103278592
/-- A float as a whole number, towards 0, within 2^31 from it. -/
def wholeF (b : Nat) : Int :=
  if (F64.order b b != some .eq) = true then 0
  else if (F64.order b farB == some .gt || F64.order b farB == some .eq) = true then 2147483648
  else if (F64.order b nfarB == some .lt || F64.order b nfarB == some .eq) = true then -2147483648
  else match (FloatKind.f64.decode b).toInt .zero with | some n => n | none => 0
theorem far_read : F64.read farB = .number false (2 ^ 52) (-21) := by decide +kernel
theorem nfar_read : F64.read nfarB = .number true (2 ^ 52) (-21) := by decide +kernel
theorem cut_le (s : Bool) (m drop : Nat) (h : m < 2 ^ 40 * 2 ^ drop) : Toward.zero.cut s m drop < 2 ^ 40 := by
  unfold Toward.cut
  simp only [Bool.toNat_false, Nat.add_zero, Nat.shiftLeft_eq, Nat.one_mul]
  by_cases hd : drop ≤ m.log2 + 2
  · rw [Nat.min_eq_left hd]
    exact Nat.div_lt_of_lt_mul (by rw [Nat.mul_comm]; exact h)
  · rw [Nat.min_eq_right (by omega)]
    have : m < 2 ^ (m.log2 + 2) := Nat.lt_of_lt_of_le Nat.lt_log2_self (Nat.pow_le_pow_right (by decide) (by omega))
    rw [Nat.div_eq_of_lt this]
    decide
theorem mag_small {m : Nat} {e : Int} (h : m * 2 ^ (e - min e (-21)).toNat < 2 ^ 52 * 2 ^ (-21 - min e (-21)).toNat) : m <<< e.toNat < 2 ^ 40 * 2 ^ (-e).toNat := by
  rw [Nat.shiftLeft_eq]
  by_cases h0 : 0 ≤ e
  · obtain ⟨k, rfl⟩ : ∃ k : Nat, e = k := ⟨e.toNat, by omega⟩
    have e1 : ((k : Int) - min (k : Int) (-21)).toNat = k + 21 := by omega
    have e2 : ((-21 : Int) - min (k : Int) (-21)).toNat = 0 := by omega
    have e3 : (-(k : Int)).toNat = 0 := by omega
    rw [e1, e2, Nat.pow_add] at h
    rw [e3, Int.toNat_natCast]
    rw [← Nat.mul_assoc] at h
    omega
  · obtain ⟨k, rfl⟩ : ∃ k : Nat, e = -(k : Int) := ⟨(-e).toNat, by omega⟩
    have e3 : (-(-(k : Int))).toNat = k := by omega
    have e4 : (-(k : Int)).toNat = 0 := by omega
    rw [e3, e4, Nat.pow_zero, Nat.mul_one]
    by_cases h1 : k ≤ 21
    · have e1 : (-(k : Int) - min (-(k : Int)) (-21)).toNat = 21 - k := by omega
      have e2 : ((-21 : Int) - min (-(k : Int)) (-21)).toNat = 0 := by omega
      rw [e1, e2, Nat.pow_zero, Nat.mul_one] at h
      have h2 : m * 2 ^ 21 < 2 ^ 52 * 2 ^ k := by
        have : 2 ^ 21 = 2 ^ (21 - k) * 2 ^ k := by rw [← Nat.pow_add]; congr 1; omega
        rw [this, ← Nat.mul_assoc]
        exact Nat.mul_lt_mul_of_pos_right h (Nat.two_pow_pos k)
      omega
    · have e1 : (-(k : Int) - min (-(k : Int)) (-21)).toNat = 0 := by omega
      have e2 : ((-21 : Int) - min (-(k : Int)) (-21)).toNat = k - 21 := by omega
      rw [e1, e2, Nat.pow_zero, Nat.mul_one] at h
      have : 2 ^ k = 2 ^ 21 * 2 ^ (k - 21) := by rw [← Nat.pow_add]; congr 1; omega
      rw [this]
      have : 1 ≤ 2 ^ (k - 21) := Nat.one_le_two_pow
      omega
theorem whole_some {b : Nat} (h1 : (F64.order b b != some .eq) = false) (h2 : (F64.order b farB == some .gt || F64.order b farB == some .eq) = false) (h3 : (F64.order b nfarB == some .lt || F64.order b nfarB == some .eq) = false) :
    ∃ n, (FloatKind.f64.decode b).toInt .zero = some n ∧ -1099511627776 ≤ n ∧ n ≤ 1099511627776 := by
  show ∃ n, (F64.read b).toInt .zero = some n ∧ _
  unfold Format.order at h1 h2 h3
  rw [far_read] at h2
  rw [nfar_read] at h3
  cases e : F64.read b with
  | nan s f => rw [e] at h1; simp [Datum.order] at h1
  | infinity s =>
    rw [e] at h2 h3
    cases s
    · simp [Datum.order] at h2
    · simp [Datum.order] at h3
  | number s m i =>
    rw [e] at h2 h3
    simp only [Datum.order] at h2 h3
    refine ⟨signed s (Toward.zero.cut s (m <<< i.toNat) (-i).toNat) 0, rfl, ?_⟩
    have hlt : m * 2 ^ (i - min i (-21)).toNat < 2 ^ 52 * 2 ^ (-21 - min i (-21)).toNat := by
      cases s
      · have : compare (signed false m (i - min i (-21)).toNat) (signed false (2 ^ 52) (-21 - min i (-21)).toNat) = .lt := by
          generalize compare (signed false m (i - min i (-21)).toNat) (signed false (2 ^ 52) (-21 - min i (-21)).toNat) = c at h2
          cases c
          · rfl
          · simp at h2
          · simp at h2
        have := Int.compare_eq_lt.1 this
        unfold signed at this
        simp only [Bool.false_eq_true, if_false, Nat.shiftLeft_eq] at this
        omega
      · have : compare (signed true m (i - min i (-21)).toNat) (signed true (2 ^ 52) (-21 - min i (-21)).toNat) = .gt := by
          generalize compare (signed true m (i - min i (-21)).toNat) (signed true (2 ^ 52) (-21 - min i (-21)).toNat) = c at h3
          cases c
          · simp at h3
          · simp at h3
          · rfl
        have := Int.compare_eq_gt.1 this
        unfold signed at this
        simp only [if_true, Nat.shiftLeft_eq] at this
        omega
    have := cut_le s (m <<< i.toNat) (-i).toNat (mag_small hlt)
    unfold signed
    simp only [Nat.shiftLeft_zero]
    split <;> omega
theorem wholeF_in (b : Nat) : -1099511627776 ≤ wholeF b ∧ wholeF b ≤ 1099511627776 := by
  unfold wholeF
  split
  · decide
  split
  · decide
  split
  · decide
  rename_i h1 h2 h3
  obtain ⟨n, hn, hr⟩ := whole_some (by simpa using h1) (by simpa using h2) (by simpa using h3)
  rw [hn]
  exact hr

mutual
/-- How many values. -/
def VT.count : VT → Nat
  | .mk _ _ _ o => 1 + VT.counts o
def VT.counts : List VT → Nat
  | [] => 0
  | x :: xs => x.count + VT.counts xs
end
theorem VT.counts_sum : ∀ l : List VT, VT.counts l = (l.map VT.count).sum
  | [] => rfl
  | x :: xs => by simp [VT.counts, VT.counts_sum xs]
theorem VT.count_eq (v : VT) : v.count = 1 + (v.of.map VT.count).sum := by
  obtain ⟨n, f, s, o⟩ := v
  simp only [VT.count, VT.counts_sum, VT.of]
theorem VT.count_part {v x : VT} (h : x ∈ v.of) : x.count + 1 ≤ v.count := by
  rw [VT.count_eq v]
  have := le_sum (List.mem_map.2 ⟨x, h, rfl⟩ : x.count ∈ v.of.map VT.count)
  omega
theorem foldB_count {f : KT → Nat → Nat → Made} : ∀ {ts : List KT} (_ : ∀ t ∈ ts, ∀ a m, (f t a m).v.count + m ≤ (f t a m).made) (a m : Nat), ((foldB f ts a m).1.map VT.count).sum + m ≤ (foldB f ts a m).2.2
  | [], _, a, m => by simp [foldB]
  | t :: ts, hf, a, m => by
    have h1 := hf t List.mem_cons_self a m
    have h2 := foldB_count (fun u hu => hf u (List.mem_cons_of_mem _ hu)) (f t a m).at_ (f t a m).made
    simp only [foldB, List.map_cons, List.sum_cons]
    omega
theorem buildM_count (l : List Int) : ∀ (d : Nat) (t : KT) (a m : Nat), (buildM l d t a m).v.count + m ≤ (buildM l d t a m).made
  | 0, t, a, m => by simp [buildM, VT.zero, VT.count, VT.counts]; omega
  | d + 1, t, a, m => by
    have ih := buildM_count l d
    rw [buildM]
    repeat' split
    · simp [VT.num, VT.count, VT.counts]; omega
    · simp [VT.num, VT.count, VT.counts]; omega
    · simp [VT.num, VT.count, VT.counts]; omega
    · simp [VT.count, VT.counts]; omega
    · simp [VT.count, VT.counts]; omega
    · simp [VT.num, VT.count, VT.counts]; omega
    · simp [VT.zero, VT.count, VT.counts]; omega
    · rw [VT.count_eq]
      simp only [VT.pj]
      have := foldB_count (f := buildM l d) (ts := List.replicate (min (min (nextN l a % 4) t.most) (4 * (t.of.length : Int))).toNat (t.of.getD 0 (.mk 0 0 [] []))) (fun u _ a m => ih u a m) (nextA l a) (m + 1)
      omega
    · rw [VT.count_eq]
      simp only [VT.pj]
      have := foldB_count (f := buildM l d) (ts := t.of) (fun u _ a m => ih u a m) a (m + 1)
      omega
    · simp [VT.zero, VT.count, VT.counts]; omega
    · rw [VT.count_eq]
      simp only [VT.pj, List.map_cons, List.map_nil, List.sum_cons, List.sum_nil]
      have := ih (t.of.getD (nextN l a % (t.of.length : Int)).toNat (.mk 0 0 [] [])) (nextA l a) (m + 1)
      omega
    · simp [VT.zero, VT.count, VT.counts]; omega
theorem buildV_count (l : List Int) {t : KT} (h : cost 20 t < 2 ^ 30) : (buildV l t).count < 2 ^ 30 := by
  have h1 := buildM_count l 20 t 0 0
  have h2 := (buildM_bound l 20 t 0 0 (Nat.le_refl _)).2
  unfold buildV
  omega

def foldZ (f : KT → VT → List Int → List Int) : List KT → List VT → List Int → List Int
  | t :: ts, x :: xs, o => foldZ f ts xs (f t x o)
  | _, _, o => o
/-- A value's numbers behind others, so long as they are not too many. -/
def walkM (most : Int) : Nat → KT → VT → List Int → List Int
  | 0, _, _, o => o
  | d + 1, t, v, o =>
    if (o.length : Int) ≥ most then o
    else if t.kind = 3 then o ++ [wholeF v.f]
    else if t.kind = 4 then o ++ [(v.s.size : Int)]
    else if t.kind = 5 then v.of.foldl (fun o x => walkM most d (t.of.getD 0 (.mk 0 0 [] [])) x o) (o ++ [(v.of.length : Int)])
    else if t.kind = 6 then foldZ (walkM most d) t.of v.of o
    else if t.kind = 8 then walkM most d (t.of.getD v.n.toNat (.mk 0 0 [] [])) (v.of.getD 0 VT.zero) (o ++ [v.n])
    else o ++ [v.n]
def flatM (most : Int) (t : KT) (v : VT) : List Int := if VT.is 20 t v = true then (walkM most 20 t v []).take (max most 0).toNat else []
theorem foldl_len {f : List Int → VT → List Int} : ∀ {xs : List VT} {o : List Int} (_ : ∀ x ∈ xs, ∀ o, (f o x).length ≤ o.length + x.count), (xs.foldl f o).length ≤ o.length + (xs.map VT.count).sum
  | [], o, _ => by simp
  | x :: xs, o, h => by
    have h1 := h x List.mem_cons_self o
    have h2 := foldl_len (o := f o x) fun y hy => h y (List.mem_cons_of_mem _ hy)
    simp only [List.foldl_cons, List.map_cons, List.sum_cons]
    omega
theorem foldZ_len {f : KT → VT → List Int → List Int} : ∀ {ts : List KT} {xs : List VT} {o : List Int} (_ : ∀ t ∈ ts, ∀ x ∈ xs, ∀ o, (f t x o).length ≤ o.length + x.count), (foldZ f ts xs o).length ≤ o.length + (xs.map VT.count).sum
  | t :: ts, x :: xs, o, h => by
    have h1 := h t List.mem_cons_self x List.mem_cons_self o
    have h2 := foldZ_len (o := f t x o) fun u hu y hy => h u (List.mem_cons_of_mem _ hu) y (List.mem_cons_of_mem _ hy)
    simp only [foldZ, List.map_cons, List.sum_cons]
    omega
  | [], _, o, _ => by simp [foldZ]
  | _ :: _, [], o, _ => by simp [foldZ]
theorem is_5 {d : Nat} {t : KT} {v : VT} (hk : t.kind = 5) (h : VT.is (d + 1) t v = true) : v.n = 0 ∧ (v.of.length : Int) ≤ t.most ∧ t.of.length = 1 ∧ ∀ x ∈ v.of, VT.is d (t.of.getD 0 (.mk 0 0 [] [])) x = true := by
  rw [VT.is, if_neg (by omega), if_neg (by omega), if_neg (by omega), if_neg (by omega), if_neg (by omega), if_neg (by omega)] at h
  by_cases hb : ((fbits v.f != 0) || !(v.s.toList == (bs []).toList)) = true
  · rw [if_pos hb] at h; cases h
  rw [if_neg hb, if_pos hk] at h
  by_cases hn : v.n ≠ 0 ∨ (v.of.length : Int) > t.most ∨ t.of.length ≠ 1
  · rw [if_pos hn] at h; cases h
  rw [if_neg hn] at h
  exact ⟨by omega, by omega, by omega, List.all_eq_true.1 h⟩
theorem allZip_get {e : KT → VT → Bool} : ∀ {ts : List KT} {xs : List VT}, allZip e ts xs = true → ∀ (i : Nat) (t : KT) (x : VT), ts[i]? = some t → xs[i]? = some x → e t x = true
  | t :: ts, x :: xs, h, 0, u, y, h1, h2 => by
    simp only [allZip, Bool.and_eq_true] at h
    cases h1; cases h2; exact h.1
  | t :: ts, x :: xs, h, i + 1, u, y, h1, h2 => by
    simp only [allZip, Bool.and_eq_true] at h
    exact allZip_get h.2 i u y (by simpa using h1) (by simpa using h2)
theorem is_6 {d : Nat} {t : KT} {v : VT} (hk : t.kind = 6) (h : VT.is (d + 1) t v = true) : v.n = 0 ∧ v.of.length = t.of.length ∧ allZip (VT.is d) t.of v.of = true := by
  rw [VT.is, if_neg (by omega), if_neg (by omega), if_neg (by omega), if_neg (by omega), if_neg (by omega), if_neg (by omega)] at h
  by_cases hb : ((fbits v.f != 0) || !(v.s.toList == (bs []).toList)) = true
  · rw [if_pos hb] at h; cases h
  rw [if_neg hb, if_neg (by omega), if_pos hk] at h
  by_cases hn : v.n ≠ 0 ∨ v.of.length ≠ t.of.length
  · rw [if_pos hn] at h; cases h
  rw [if_neg hn] at h
  exact ⟨by omega, by omega, h⟩
theorem is_8 {d : Nat} {t : KT} {v : VT} (hk : t.kind = 8) (h : VT.is (d + 1) t v = true) : (0 ≤ v.n ∧ v.n < t.of.length ∧ v.of.length = 1) ∧ VT.is d (t.of.getD v.n.toNat (.mk 0 0 [] [])) (v.of.getD 0 VT.zero) = true := by
  rw [VT.is, if_neg (by omega), if_neg (by omega), if_neg (by omega), if_neg (by omega), if_neg (by omega), if_neg (by omega)] at h
  by_cases hb : ((fbits v.f != 0) || !(v.s.toList == (bs []).toList)) = true
  · rw [if_pos hb] at h; cases h
  rw [if_neg hb, if_neg (by omega), if_neg (by omega), if_pos hk] at h
  by_cases hn : 0 ≤ v.n ∧ v.n < t.of.length ∧ v.of.length = 1
  · rw [if_pos hn] at h
    exact ⟨hn, h⟩
  · rw [if_neg hn] at h; cases h
theorem foldZ_lenI {e : KT → VT → Bool} {f : KT → VT → List Int → List Int} (h : ∀ t x, e t x = true → ∀ o, (f t x o).length ≤ o.length + x.count) : ∀ {ts : List KT} {xs : List VT} {o : List Int}, allZip e ts xs = true → (foldZ f ts xs o).length ≤ o.length + (xs.map VT.count).sum
  | t :: ts, x :: xs, o, ha => by
    simp only [allZip, Bool.and_eq_true] at ha
    have h1 := h t x ha.1 o
    have h2 := foldZ_lenI h (o := f t x o) ha.2
    simp only [foldZ, List.map_cons, List.sum_cons]
    omega
  | [], _, o, _ => by simp [foldZ]
  | _ :: _, [], o, _ => by simp [foldZ]
theorem walkM_len (most : Int) : ∀ (d : Nat) (t : KT) (v : VT) (o : List Int), VT.is d t v = true → (walkM most d t v o).length ≤ o.length + v.count
  | 0, t, v, o, _ => by simp only [walkM]; omega
  | d + 1, t, v, o, h => by
    have ih := walkM_len most d
    have hc := VT.count_eq v
    rw [walkM]
    split
    · omega
    split
    · simp; omega
    split
    · simp; omega
    split
    · rename_i h5
      obtain ⟨_, _, _, ha⟩ := is_5 h5 h
      have := foldl_len (f := fun o x => walkM most d (t.of.getD 0 (.mk 0 0 [] [])) x o) (o := o ++ [(v.of.length : Int)]) (xs := v.of) fun x hx o => ih _ x o (ha x hx)
      rw [List.length_append, List.length_singleton] at this
      omega
    split
    · rename_i h6
      have := foldZ_lenI (e := VT.is d) (f := walkM most d) (fun t x hx o => ih t x o hx) (o := o) (is_6 h6 h).2.2
      omega
    split
    · rename_i h8
      obtain ⟨h1, h2⟩ := is_8 h8 h
      have := ih _ _ (o ++ [v.n]) h2
      obtain ⟨x, hx⟩ := List.length_eq_one_iff.1 h1.2.2
      rw [hx] at this hc ⊢
      simp at this hc
      simp
      omega
    · simp; omega
theorem allZip_take {e : KT → VT → Bool} : ∀ {ts : List KT} {xs : List VT}, allZip e ts xs = true → ∀ k, allZip e (ts.take k) (xs.take k) = true
  | [], xs, _, k => by simp [allZip]
  | t :: ts, [], _, k => by cases k <;> simp [allZip]
  | t :: ts, x :: xs, h, 0 => rfl
  | t :: ts, x :: xs, h, k + 1 => by
    simp only [allZip, Bool.and_eq_true] at h
    simp only [List.take_succ_cons, allZip, h.1, Bool.true_and]
    exact allZip_take h.2 k
theorem foldZ_take (f : KT → VT → List Int → List Int) : ∀ (ts : List KT) (xs : List VT) (o : List Int) (k : Nat) (t : KT) (x : VT), ts[k]? = some t → xs[k]? = some x → foldZ f (ts.take (k + 1)) (xs.take (k + 1)) o = f t x (foldZ f (ts.take k) (xs.take k) o)
  | t :: ts, x :: xs, o, 0, u, y, h1, h2 => by cases h1; cases h2; rfl
  | t :: ts, x :: xs, o, k + 1, u, y, h1, h2 => by
    simp only [List.take_succ_cons, foldZ]
    exact foldZ_take f ts xs _ k u y (by simpa using h1) (by simpa using h2)
end Go.Pv
/- Is a value one of a type: kind by kind. No condition. -/
namespace Go.Pv
/-- What a test says. -/
theorem pvq : (∀ a b : Bool, ((a && b) = true) = (a = true ∧ b = true)) ∧ (∀ a b : Bool, ((a || b) = true) = (a = true ∨ b = true)) ∧ (∀ (p : Prop) [Decidable p], (decide p = true) = p) ∧ (∀ a b : Int, ((a == b) = true) = (a = b)) ∧ (∀ a b : Nat, ((a == b) = true) = (a = b)) ∧ (∀ a b : Int, ((a != b) = true) = (a ≠ b)) ∧ (∀ a b : Nat, ((a != b) = true) = (a ≠ b)) ∧
    (∀ b : Bool, ((!b) = true) = (b = false)) ∧ (∀ a b : Bool, ((a || b) = false) = (a = false ∧ b = false)) ∧ (∀ a b : Bool, ((a && b) = false) = (a = false ∨ b = false)) ∧ (∀ (p : Prop) [Decidable p], (decide p = false) = ¬p) ∧ (∀ a b : Int, ((a == b) = false) = (a ≠ b)) ∧ (∀ a b : Nat, ((a == b) = false) = (a ≠ b)) ∧ (∀ a b : Int, ((a != b) = false) = (a = b)) ∧ (∀ a b : Nat, ((a != b) = false) = (a = b)) :=
  ⟨fun _ _ => by simp, fun _ _ => by simp, fun _ _ => by simp, fun _ _ => by simp, fun _ _ => by simp, fun _ _ => by simp, fun _ _ => by simp, fun _ => by simp, fun _ _ => by simp, fun a b => by cases a <;> cases b <;> simp, fun _ _ => by simp, fun _ _ => by simp, fun _ _ => by simp, fun _ _ => by simp, fun _ _ => by simp⟩
def noFT (v : VT) : Bool := (fbits v.f == 0) && (v.s.toList == (bs []).toList)
theorem plain_eq (v : VT) : v.plain = (noFT v && ((v.of.length : Int) == 0)) := rfl
theorem ft_neg {v : VT} {b : Bool} (h : ((fbits v.f != 0) || !(v.s.toList == (bs []).toList)) = b) : noFT v = !b := by
  unfold noFT; rw [← h, bne]
  cases (fbits v.f == 0) <;> cases (v.s.toList == (bs []).toList) <;> rfl
theorem is0 (d : Nat) (m : Int) (n : List ByteArray) (o : List KT) (v : VT) : VT.is (d + 1) (.mk 0 m n o) v = (noFT v && ((v.of.length : Int) == 0) && decide (v.n ≥ 0) && decide (v.n ≤ 1)) := by
  rfl
theorem is1 (d : Nat) (m : Int) (n : List ByteArray) (o : List KT) (v : VT) : VT.is (d + 1) (.mk 1 m n o) v = (noFT v && ((v.of.length : Int) == 0) && decide (v.n ≥ 0) && decide (v.n ≤ 65535)) := by
  rfl
theorem is2 (d : Nat) (m : Int) (n : List ByteArray) (o : List KT) (v : VT) : VT.is (d + 1) (.mk 2 m n o) v = (noFT v && ((v.of.length : Int) == 0) && decide (v.n ≥ -2147483648) && decide (v.n < 2147483648)) := by
  rfl
theorem is3 (d : Nat) (m : Int) (n : List ByteArray) (o : List KT) (v : VT) : VT.is (d + 1) (.mk 3 m n o) v = ((v.n == 0) && (v.s.toList == (bs []).toList) && ((v.of.length : Int) == 0)) := by
  rfl
theorem is4 (d : Nat) (m : Int) (n : List ByteArray) (o : List KT) (v : VT) : VT.is (d + 1) (.mk 4 m n o) v = ((v.n == 0) && (fbits v.f == 0) && ((v.of.length : Int) == 0) && decide ((v.s.size : Int) ≤ m)) := by
  rfl
theorem is7 (d : Nat) (m : Int) (n : List ByteArray) (o : List KT) (v : VT) : VT.is (d + 1) (.mk 7 m n o) v = (noFT v && ((v.of.length : Int) == 0) && decide (v.n ≥ 0) && decide (v.n < (n.length : Int))) := by
  rfl
theorem noFT_if {v : VT} {α : Type} (a b : α) : (if ((fbits v.f != 0) || !(v.s.toList == (bs []).toList)) = true then a else b) = (if noFT v = true then b else a) := by
  have := ft_neg (v := v) rfl
  rw [this]
  cases ((fbits v.f != 0) || !(v.s.toList == (bs []).toList)) <;> rfl
theorem is5 (d : Nat) (m : Int) (n : List ByteArray) (o : List KT) (v : VT) : VT.is (d + 1) (.mk 5 m n o) v = (noFT v && ((v.n == 0) && decide ((v.of.length : Int) ≤ m) && (o.length == 1)) && v.of.all (VT.is d (o.getD 0 (.mk 0 0 [] [])))) := by
  have : VT.is (d + 1) (.mk 5 m n o) v = (if noFT v = true then (if v.n ≠ 0 ∨ (v.of.length : Int) > m ∨ o.length ≠ 1 then false else v.of.all (VT.is d (o.getD 0 (.mk 0 0 [] [])))) else false) := by
    rw [← noFT_if]; rfl
  rw [this]
  cases noFT v
  · rfl
  simp only [if_true, Bool.true_and]
  by_cases h : v.n ≠ 0 ∨ (v.of.length : Int) > m ∨ o.length ≠ 1
  · rw [if_pos h]
    have : ((v.n == 0) && decide ((v.of.length : Int) ≤ m) && (o.length == 1)) = false := by
      rw [Bool.eq_false_iff]; intro hh; simp at hh; omega
    rw [this]; rfl
  · rw [if_neg h]
    have : ((v.n == 0) && decide ((v.of.length : Int) ≤ m) && (o.length == 1)) = true := by simp; omega
    rw [this]; rfl
theorem is6 (d : Nat) (m : Int) (n : List ByteArray) (o : List KT) (v : VT) : VT.is (d + 1) (.mk 6 m n o) v = (noFT v && ((v.n == 0) && (v.of.length == o.length)) && allZip (VT.is d) o v.of) := by
  have : VT.is (d + 1) (.mk 6 m n o) v = (if noFT v = true then (if v.n ≠ 0 ∨ v.of.length ≠ o.length then false else allZip (VT.is d) o v.of) else false) := by
    rw [← noFT_if]; rfl
  rw [this]
  cases noFT v
  · rfl
  simp only [if_true, Bool.true_and]
  by_cases h : v.n ≠ 0 ∨ v.of.length ≠ o.length
  · rw [if_pos h]
    have : ((v.n == 0) && (v.of.length == o.length)) = false := by
      rw [Bool.eq_false_iff]; intro hh; simp at hh; omega
    rw [this]; rfl
  · rw [if_neg h]
    have : ((v.n == 0) && (v.of.length == o.length)) = true := by simp; omega
    rw [this]; rfl
theorem is8 (d : Nat) (m : Int) (n : List ByteArray) (o : List KT) (v : VT) : VT.is (d + 1) (.mk 8 m n o) v = (noFT v && (decide (0 ≤ v.n) && decide (v.n < (o.length : Int)) && (v.of.length == 1)) && VT.is d (o.getD v.n.toNat (.mk 0 0 [] [])) (v.of.getD 0 VT.zero)) := by
  have : VT.is (d + 1) (.mk 8 m n o) v = (if noFT v = true then (if 0 ≤ v.n ∧ v.n < o.length ∧ v.of.length = 1 then VT.is d (o.getD v.n.toNat (.mk 0 0 [] [])) (v.of.getD 0 VT.zero) else false) else false) := by
    rw [← noFT_if]; rfl
  rw [this]
  cases noFT v
  · rfl
  simp only [if_true, Bool.true_and]
  by_cases h : 0 ≤ v.n ∧ v.n < (o.length : Int) ∧ v.of.length = 1
  · rw [if_pos h]
    have : (decide (0 ≤ v.n) && decide (v.n < (o.length : Int)) && (v.of.length == 1)) = true := by simp; omega
    rw [this]; rfl
  · rw [if_neg h]
    have : (decide (0 ≤ v.n) && decide (v.n < (o.length : Int)) && (v.of.length == 1)) = false := by
      rw [Bool.eq_false_iff]; intro hh; simp at hh; omega
    rw [this]; rfl
/-- How deep one looks does not matter, so long as it is deep enough. -/
theorem is_deep {e : Nat} {T : KT} (h : WT e T) : ∀ (d : Nat) (v : VT), e ≤ d → VT.is d T v = VT.is e T v := by
  have key : ∀ {p q : KT → VT → Bool} {ts : List KT}, (∀ t ∈ ts, ∀ x, p t x = q t x) → ∀ xs, allZip p ts xs = allZip q ts xs := by
    intro p q ts
    induction ts with
    | nil => intro _ xs; rfl
    | cons t ts ih =>
      intro hh xs
      cases xs with
      | nil => rfl
      | cons x xs => simp only [allZip]; rw [hh t List.mem_cons_self x, ih fun u hu => hh u (List.mem_cons_of_mem _ hu)]
  induction h with
  | base e k hk =>
    intro d v hd
    obtain ⟨d, rfl⟩ : ∃ d', d = d' + 1 := ⟨d - 1, by omega⟩
    have : k = 0 ∨ k = 1 ∨ k = 2 ∨ k = 3 := by omega
    rcases this with rfl | rfl | rfl | rfl
    · rw [is0, is0]
    · rw [is1, is1]
    · rw [is2, is2]
    · rw [is3, is3]
  | text e m =>
    intro d v hd
    obtain ⟨d, rfl⟩ : ∃ d', d = d' + 1 := ⟨d - 1, by omega⟩
    rw [is4, is4]
  | enum e n =>
    intro d v hd
    obtain ⟨d, rfl⟩ : ∃ d', d = d' + 1 := ⟨d - 1, by omega⟩
    rw [is7, is7]
  | seq e m o _ _ ih =>
    intro d v hd
    obtain ⟨d, rfl⟩ : ∃ d', d = d' + 1 := ⟨d - 1, by omega⟩
    rw [is5, is5]
    congr 2
    funext x
    exact ih d x (by omega)
  | reco e k n o hk _ hn _ ho ih =>
    intro d v hd
    obtain ⟨d, rfl⟩ : ∃ d', d = d' + 1 := ⟨d - 1, by omega⟩
    rcases hk with rfl | rfl
    · rw [is6, is6]
      congr 1
      exact key (fun t ht x => ih t ht d x (by omega)) _
    · rw [is8, is8]
      by_cases h : v.n.toNat < o.length
      · congr 1
        rw [List.getD_eq_getElem?_getD, List.getElem?_eq_getElem h]
        exact ih _ (List.getElem_mem h) d _ (by omega)
      · have : decide (v.n < (o.length : Int)) = false := decide_eq_false (by omega)
        rw [this]
        simp
end Go.Pv
/- What is built is of its type; its numbers, as the reference tells them. No condition. -/
namespace Go.Pv

/-- How deep one builds does not matter, so long as it is deep enough. -/
theorem foldB_congr {f g : KT → Nat → Nat → Made} : ∀ {ts : List KT} (_ : ∀ t ∈ ts, ∀ a m, f t a m = g t a m) (a m : Nat), foldB f ts a m = foldB g ts a m
  | [], _, _, _ => rfl
  | t :: ts, h, a, m => by
    simp only [foldB]
    rw [h t List.mem_cons_self, foldB_congr fun u hu => h u (List.mem_cons_of_mem _ hu)]
theorem build_deep (l : List Int) {e : Nat} {T : KT} (h : WT e T) : ∀ (d a m : Nat), e ≤ d → buildM l d T a m = buildM l e T a m := by
  induction h with
  | base e k hk =>
    intro d a m hd
    obtain ⟨d, rfl⟩ : ∃ d', d = d' + 1 := ⟨d - 1, by omega⟩
    have : k = 0 ∨ k = 1 ∨ k = 2 ∨ k = 3 := by omega
    rcases this with rfl | rfl | rfl | rfl
    · rw [buildM_0 rfl, buildM_0 rfl]
    · rw [buildM_1 rfl, buildM_1 rfl]
    · rw [buildM_2 rfl, buildM_2 rfl]
    · rw [buildM_3 rfl, buildM_3 rfl]
  | text e m =>
    intro d a m' hd
    obtain ⟨d, rfl⟩ : ∃ d', d = d' + 1 := ⟨d - 1, by omega⟩
    rw [buildM_4 rfl, buildM_4 rfl]
  | enum e n =>
    intro d a m hd
    obtain ⟨d, rfl⟩ : ∃ d', d = d' + 1 := ⟨d - 1, by omega⟩
    rw [buildM_7 rfl, buildM_7 rfl]
  | seq e mo o _ _ ih =>
    intro d a m hd
    obtain ⟨d, rfl⟩ : ∃ d', d = d' + 1 := ⟨d - 1, by omega⟩
    by_cases hm : m + 1 ≤ 100
    · rw [buildM_5 rfl hm, buildM_5 rfl hm]
      rw [foldB_congr (f := buildM l d) (g := buildM l e) fun u hu a m => by
        rw [(List.mem_replicate.1 hu).2]
        exact ih d a m (by omega)]
    · rw [buildM_5n rfl (by omega), buildM_5n rfl (by omega)]
  | reco e k n o hk hl hn _ ho ih =>
    intro d a m hd
    obtain ⟨d, rfl⟩ : ∃ d', d = d' + 1 := ⟨d - 1, by omega⟩
    rcases hk with rfl | rfl
    · rw [buildM_6 rfl, buildM_6 rfl]
      rw [foldB_congr (f := buildM l d) (g := buildM l e) (ts := (KT.mk 6 0 n o).of) fun u hu a m => ih u hu d a m (by omega)]
    · have h0 : (KT.mk 8 0 n o).of.length ≠ 0 := show o.length ≠ 0 by omega
      rw [buildM_8 rfl h0, buildM_8 rfl h0]
      have h1 := Int.emod_lt_of_pos (nextN l a) (show (0 : Int) < o.length by omega)
      have h2 := Int.emod_nonneg (nextN l a) (show (o.length : Int) ≠ 0 by omega)
      have hj : (nextN l a % ((KT.mk 8 0 n o).of.length : Int)).toNat < o.length := by
        show (nextN l a % (o.length : Int)).toNat < o.length
        omega
      obtain ⟨y, hy⟩ : ∃ y, (KT.mk 8 0 n o).of.getD (nextN l a % ((KT.mk 8 0 n o).of.length : Int)).toNat (.mk 0 0 [] []) = y ∧ y ∈ o := by
        refine ⟨o[(nextN l a % ((KT.mk 8 0 n o).of.length : Int)).toNat], ?_, List.getElem_mem hj⟩
        show o.getD _ _ = _
        rw [List.getD_eq_getElem?_getD, List.getElem?_eq_getElem hj]; rfl
      rw [hy.1, ih y hy.2 d _ _ (by omega)]

theorem bits_zero : fbits 0 = 0 := by decide +kernel
theorem noFT_zero {n : Int} {o : List VT} : noFT (.mk n 0 (bs []) o) = true := by
  unfold noFT; simp [VT.pj, bits_zero]
theorem foldB_zip {f : KT → Nat → Nat → Made} {e : KT → VT → Bool} : ∀ {ts : List KT} (_ : ∀ t ∈ ts, ∀ a m, e t (f t a m).v = true) (a m : Nat), allZip e ts (foldB f ts a m).1 = true
  | [], _, _, _ => rfl
  | t :: ts, h, a, m => by
    simp only [foldB, allZip]
    rw [h t List.mem_cons_self, foldB_zip fun u hu => h u (List.mem_cons_of_mem _ hu)]; rfl
theorem letters_toList (n : Nat) : (letters n).size = n := letters_size n
/-- What is built is of its type. -/
theorem built_is {l : List Int} (_hr : ∀ x ∈ l, -9223372036854775808 ≤ x ∧ x ≤ 9223372036854775807) {e : Nat} {T : KT} (h : WT e T) : ∀ (a m : Nat), VT.is e T (buildM l e T a m).v = true := by
  induction h with
  | base e k hk =>
    intro a m
    have : k = 0 ∨ k = 1 ∨ k = 2 ∨ k = 3 := by omega
    have hlen : ∀ n f s, (VT.mk n f s []).of.length = 0 := fun _ _ _ => rfl
    rcases this with rfl | rfl | rfl | rfl
    · rw [buildM_0 rfl, is0]
      simp only [VT.num, noFT_zero, VT.pj, List.length_nil, Bool.true_and]
      simp; omega
    · rw [buildM_1 rfl, is1]
      simp only [VT.num, noFT_zero, VT.pj, List.length_nil, Bool.true_and]
      simp; omega
    · rw [buildM_2 rfl, is2]
      simp only [VT.num, noFT_zero, VT.pj, List.length_nil, Bool.true_and]
      simp only [IntKind.wrap_i64, IntKind.wrap_i32]
      simp; omega
    · rw [buildM_3 rfl, is3]
      simp [VT.pj]
  | text e mo hm =>
    intro a m
    rw [buildM_4 rfl, is4]
    simp only [VT.pj, bits_zero, letters_size, KT.pj]
    have h1 := Int.emod_lt_of_pos (nextN l a) (show (0 : Int) < min (max mo 0) 9223372036854775806 + 1 by omega)
    have h2 := Int.emod_nonneg (nextN l a) (show (min (max mo 0) 9223372036854775806 + 1 : Int) ≠ 0 by omega)
    simp; omega
  | enum e n hl hf =>
    intro a m
    rw [buildM_7 rfl, is7]
    have := Int.emod_lt_of_pos (nextN l a) (show (0 : Int) < (max n.length 1 : Nat) by omega)
    have := Int.emod_nonneg (nextN l a) (show ((max n.length 1 : Nat) : Int) ≠ 0 by omega)
    simp only [VT.num, noFT_zero, VT.pj, KT.pj, List.length_nil, Bool.true_and]
    simp; omega
  | seq e mo o hm ho ih =>
    intro a m
    by_cases hm' : m + 1 ≤ 100
    · rw [buildM_5 rfl hm', is5]
      simp only [noFT_zero, VT.pj, KT.pj, foldB_len, List.length_replicate, Bool.true_and]
      have h1 : decide ((((min (min (nextN l a % 4) mo) (4 * (([o] : List KT).length : Int))).toNat : Nat) : Int) ≤ mo) = true := decide_eq_true (by simp; omega)
      rw [h1]
      simp only [beq_self_eq_true, Bool.true_and, List.length_singleton]
      exact List.all_eq_true.2 (foldB_all (P := fun v => VT.is e ([o].getD 0 (.mk 0 0 [] [])) v = true) (fun u hu a m => by rw [(List.mem_replicate.1 hu).2]; exact ih a m) _ _)
    · rw [buildM_5n rfl (by omega), is5]
      simp only [VT.zero, noFT_zero, VT.pj]
      simp; omega
  | reco e k n o hk hl hn hf ho ih =>
    intro a m
    rcases hk with rfl | rfl
    · rw [buildM_6 rfl, is6]
      simp only [noFT_zero, VT.pj, KT.pj, foldB_len, Bool.true_and, beq_self_eq_true]
      exact foldB_zip (fun t ht a m => ih t ht a m) _ _
    · have h0 : (KT.mk 8 0 n o).of.length ≠ 0 := show o.length ≠ 0 by omega
      rw [buildM_8 rfl h0, is8]
      have h1 := Int.emod_lt_of_pos (nextN l a) (show (0 : Int) < o.length by omega)
      have h2 := Int.emod_nonneg (nextN l a) (show (o.length : Int) ≠ 0 by omega)
      have hj : (nextN l a % (o.length : Int)).toNat < o.length := by omega
      simp only [noFT_zero, VT.pj, KT.pj, Bool.true_and, List.length_singleton, beq_self_eq_true, Bool.and_true]
      rw [decide_eq_true h2, decide_eq_true h1, Bool.true_and, Bool.true_and, List.getD_eq_getElem?_getD, List.getElem?_eq_getElem hj]
      exact ih _ (List.getElem_mem hj) _ _
theorem buildV_is {l : List Int} (hr : ∀ x ∈ l, -9223372036854775808 ≤ x ∧ x ≤ 9223372036854775807) {e : Nat} (he : e ≤ 20) {T : KT} (h : WT e T) : VT.is 20 T (buildV l T) = true := by
  rw [is_deep h 20 _ he, buildV, build_deep l h 20 0 0 he]
  exact built_is hr h 0 0

/-- Which part's type a part has. -/
def partT (t : KT) (v : VT) (i : Nat) : KT := t.of.getD (if t.kind = 6 then i else if t.kind = 8 then v.n.toNat else 0) (.mk 0 0 [] [])
/-- A value's numbers. -/
def flatR : Nat → KT → VT → List Int
  | 0, _, _ => []
  | d + 1, t, v =>
    if t.kind = 3 then [wholeF v.f]
    else if t.kind = 4 then [(v.s.size : Int)]
    else (if t.kind = 5 then [(v.of.length : Int)] else []) ++ (if t.kind < 3 ∨ t.kind > 6 then [v.n] else []) ++ (List.range v.of.length).flatMap fun i => flatR d (partT t v i) (v.of.getD i VT.zero)
theorem take_app {α : Type} (l r : List α) (M : Nat) : (l.take M ++ r).take M = (l ++ r).take M := by
  rw [List.take_append, List.take_append, List.take_take, Nat.min_self, List.length_take]
  by_cases h : l.length ≤ M
  · rw [Nat.min_eq_right h]
  · rw [Nat.min_eq_left (by omega)]
    congr 1
    rw [Nat.sub_self, show M - l.length = 0 by omega]
theorem foldl_walk {M : Nat} {w : List Int → VT → List Int} {g : VT → List Int} : ∀ (xs : List VT) (_ : ∀ x ∈ xs, ∀ o : List Int, o.length ≤ M → w o x = (o ++ g x).take M) (o : List Int), o.length ≤ M → xs.foldl w o = (o ++ xs.flatMap g).take M
  | [], _, o, h => by simp [List.take_of_length_le h]
  | x :: xs, hw, o, h => by
    rw [List.foldl_cons, hw x List.mem_cons_self o h, foldl_walk xs (fun y hy => hw y (List.mem_cons_of_mem _ hy)) _ (by rw [List.length_take]; omega), take_app, List.flatMap_cons, List.append_assoc]
theorem foldZ_walk {M : Nat} {w : KT → VT → List Int → List Int} {g : KT → VT → List Int} {e : KT → VT → Bool} (hw : ∀ t x, e t x = true → ∀ o : List Int, o.length ≤ M → w t x o = (o ++ g t x).take M) : ∀ (ts : List KT) (xs : List VT) (o : List Int), allZip e ts xs = true → xs.length = ts.length → o.length ≤ M →
    foldZ w ts xs o = (o ++ (List.range xs.length).flatMap fun i => g (ts.getD i (.mk 0 0 [] [])) (xs.getD i VT.zero)).take M
  | [], [], o, _, _, h => by simp [foldZ, List.take_of_length_le h]
  | t :: ts, x :: xs, o, ha, hl, h => by
    simp only [allZip, Bool.and_eq_true] at ha
    rw [foldZ, hw t x ha.1 o h, foldZ_walk hw ts xs _ ha.2 (by simpa using hl) (by rw [List.length_take]; omega), take_app, List.length_cons, List.range_succ_eq_map, List.flatMap_cons, List.flatMap_map, List.append_assoc]
    rfl
theorem flatMap_range {g : VT → List Int} : ∀ xs : List VT, xs.flatMap g = (List.range xs.length).flatMap fun i => g (xs.getD i VT.zero)
  | [] => rfl
  | x :: xs => by
    rw [List.length_cons, List.range_succ_eq_map, List.flatMap_cons, List.flatMap_cons, List.flatMap_map, flatMap_range xs]
    rfl
/-- What the walk tells is the beginning of the numbers. -/
theorem walk_flat (M : Nat) {e : Nat} {T : KT} (h : WT e T) : ∀ (d : Nat) (v : VT) (o : List Int), e ≤ d → VT.is e T v = true → o.length ≤ M → walkM M d T v o = (o ++ flatR e T v).take M := by
  have full : ∀ (o r : List Int), o.length ≥ M → o.length ≤ M → o = (o ++ r).take M := fun o r h1 h2 => by
    rw [List.take_append_of_le_length h1, List.take_of_length_le h2]
  have one : ∀ (o : List Int) (n : Int), ¬ o.length ≥ M → o ++ [n] = (o ++ [n]).take M := fun o n h => by
    rw [List.take_of_length_le (by simp; omega)]
  induction h with
  | base e k hk =>
    intro d v o hd his ho
    obtain ⟨d, rfl⟩ : ∃ d', d = d' + 1 := ⟨d - 1, by omega⟩
    have hz : v.of.length = 0 := by
      have : k = 0 ∨ k = 1 ∨ k = 2 ∨ k = 3 := by omega
      rcases this with rfl | rfl | rfl | rfl
      · rw [is0] at his; simp at his; simp [his]
      · rw [is1] at his; simp at his; simp [his]
      · rw [is2] at his; simp at his; simp [his]
      · rw [is3] at his; simp at his; simp [his]
    by_cases hM : o.length ≥ M
    · rw [walkM, if_pos (by omega)]
      exact full _ _ hM ho
    · rw [walkM, if_neg (by omega)]
      by_cases h3 : k = 3
      · subst h3
        exact one _ _ hM
      · have e1 : flatR (e + 1) (.mk k 0 [] []) v = [v.n] := by
          rw [flatR, if_neg (show ¬ (KT.mk k 0 [] []).kind = 3 from h3), if_neg (show ¬ (KT.mk k 0 [] []).kind = 4 from by show ¬ k = 4; omega), if_neg (show ¬ (KT.mk k 0 [] []).kind = 5 from by show ¬ k = 5; omega), if_pos (show (KT.mk k 0 [] []).kind < 3 ∨ _ from .inl (by show k < 3; omega)), hz]
          rfl
        rw [if_neg (show ¬ (KT.mk k 0 [] []).kind = 3 from h3), if_neg (show ¬ (KT.mk k 0 [] []).kind = 4 from by show ¬ k = 4; omega), if_neg (show ¬ (KT.mk k 0 [] []).kind = 5 from by show ¬ k = 5; omega), if_neg (show ¬ (KT.mk k 0 [] []).kind = 6 from by show ¬ k = 6; omega), if_neg (show ¬ (KT.mk k 0 [] []).kind = 8 from by show ¬ k = 8; omega), e1]
        exact one _ _ hM
  | text e m hm =>
    intro d v o hd his ho
    obtain ⟨d, rfl⟩ : ∃ d', d = d' + 1 := ⟨d - 1, by omega⟩
    by_cases hM : o.length ≥ M
    · rw [walkM, if_pos (by omega)]
      exact full _ _ hM ho
    · rw [walkM, if_neg (by omega)]
      exact one _ _ hM
  | enum e n hl hf =>
    intro d v o hd his ho
    obtain ⟨d, rfl⟩ : ∃ d', d = d' + 1 := ⟨d - 1, by omega⟩
    have hz : v.of.length = 0 := by rw [is7] at his; simp at his; simp [his]
    by_cases hM : o.length ≥ M
    · rw [walkM, if_pos (by omega)]
      exact full _ _ hM ho
    · rw [walkM, if_neg (by omega)]
      have e1 : flatR (e + 1) (.mk 7 0 n []) v = [v.n] := by
        show [] ++ [v.n] ++ (List.range v.of.length).flatMap _ = [v.n]
        rw [hz]; rfl
      rw [e1]
      exact one _ _ hM
  | seq e m u hm hu ih =>
    intro d v o hd his ho
    obtain ⟨d, rfl⟩ : ∃ d', d = d' + 1 := ⟨d - 1, by omega⟩
    obtain ⟨_, _, _, ha⟩ := is_5 rfl his
    by_cases hM : o.length ≥ M
    · rw [walkM, if_pos (by omega)]
      exact full _ _ hM ho
    · rw [walkM, if_neg (by omega)]
      show v.of.foldl (fun o x => walkM M d u x o) (o ++ [(v.of.length : Int)]) = _
      rw [foldl_walk (M := M) (g := flatR e u) v.of (fun x hx o ho => ih d x o (by omega) (ha x hx) ho) _ (by simp; omega), flatMap_range]
      show _ = (o ++ ([(v.of.length : Int)] ++ [] ++ (List.range v.of.length).flatMap fun i => flatR e u (v.of.getD i VT.zero))).take M
      rw [List.append_nil, List.append_assoc]
  | reco e k n os hk hl hn hf hos ih =>
    intro d v o hd his ho
    obtain ⟨d, rfl⟩ : ∃ d', d = d' + 1 := ⟨d - 1, by omega⟩
    rcases hk with rfl | rfl
    · obtain ⟨_, h2, ha⟩ := is_6 rfl his
      by_cases hM : o.length ≥ M
      · rw [walkM, if_pos (by omega)]
        exact full _ _ hM ho
      · rw [walkM, if_neg (by omega)]
        show foldZ (walkM M d) os v.of o = _
        have key : ∀ (ts : List KT) (xs : List VT) (o : List Int), (∀ t ∈ ts, t ∈ os) → allZip (VT.is e) ts xs = true → xs.length = ts.length → o.length ≤ M → foldZ (walkM M d) ts xs o = (o ++ (List.range xs.length).flatMap fun i => flatR e (ts.getD i (.mk 0 0 [] [])) (xs.getD i VT.zero)).take M := by
          intro ts
          induction ts with
          | nil =>
            intro xs o _ _ h2 h3
            obtain rfl : xs = [] := List.eq_nil_of_length_eq_zero (by simpa using h2)
            simp [foldZ, List.take_of_length_le h3]
          | cons t ts iht =>
            intro xs o h0 h1 h2 h3
            cases xs with
            | nil => cases h2
            | cons x xs =>
              simp only [allZip, Bool.and_eq_true] at h1
              rw [foldZ, ih t (h0 t List.mem_cons_self) d x o (by omega) h1.1 h3, iht xs _ (fun u hu => h0 u (List.mem_cons_of_mem _ hu)) h1.2 (by simpa using h2) (by rw [List.length_take]; omega), take_app, List.length_cons, List.range_succ_eq_map, List.flatMap_cons, List.flatMap_map, List.append_assoc]
              rfl
        rw [key os v.of o (fun _ h => h) ha h2 ho]
        show _ = (o ++ ([] ++ [] ++ (List.range v.of.length).flatMap fun i => flatR e (os.getD i (.mk 0 0 [] [])) (v.of.getD i VT.zero))).take M
        rfl
    · obtain ⟨⟨h1, h2, h3⟩, ha⟩ := is_8 rfl his
      by_cases hM : o.length ≥ M
      · rw [walkM, if_pos (by omega)]
        exact full _ _ hM ho
      · rw [walkM, if_neg (by omega)]
        show walkM M d (os.getD v.n.toNat (.mk 0 0 [] [])) (v.of.getD 0 VT.zero) (o ++ [v.n]) = _
        have hj : v.n.toNat < os.length := by
          have : v.n < (os.length : Int) := h2
          omega
        have hg : os.getD v.n.toNat (.mk 0 0 [] []) = os[v.n.toNat] := by rw [List.getD_eq_getElem?_getD, List.getElem?_eq_getElem hj]; rfl
        have ha' : VT.is e (os.getD v.n.toNat (.mk 0 0 [] [])) (v.of.getD 0 VT.zero) = true := ha
        rw [hg] at ha' ⊢
        rw [ih _ (List.getElem_mem hj) d _ _ (by omega) ha' (by simp; omega)]
        show _ = (o ++ ([] ++ [v.n] ++ (List.range v.of.length).flatMap fun i => flatR e (os.getD v.n.toNat (.mk 0 0 [] [])) (v.of.getD i VT.zero))).take M
        rw [h3, hg]
        simp
theorem flatM_eq (most : Int) {e : Nat} {T : KT} (h : WT e T) (he : e ≤ 20) {v : VT} (hv : VT.is e T v = true) : flatM most T v = (flatR e T v).take (max most 0).toNat := by
  have hv' : VT.is 20 T v = true := by rw [is_deep h 20 v he]; exact hv
  rw [flatM, if_pos hv']
  by_cases h0 : 0 ≤ most
  · obtain ⟨M, rfl⟩ : ∃ M : Nat, most = M := ⟨most.toNat, by omega⟩
    rw [walk_flat M h 20 v [] he hv (Nat.zero_le _), show (max (M : Int) 0).toNat = M by omega, List.nil_append, List.take_take, Nat.min_self]
  · rw [show (max most 0).toNat = 0 by omega]
    simp
end Go.Pv
namespace Go.Pv
theorem flatR_len {e : Nat} {T : KT} (h : WT e T) {v : VT} (hv : VT.is e T v = true) : (flatR e T v).length ≤ v.count := by
  have h1 := walk_flat (flatR e T v).length h e v [] (Nat.le_refl _) hv (Nat.zero_le _)
  have h2 := walkM_len ((flatR e T v).length : Int) e T v [] hv
  rw [h1, List.nil_append, List.take_length] at h2
  simpa using h2
theorem pre_len {f : Nat → List Int} {k n : Nat} (h : k ≤ n) : ((List.range k).flatMap f).length ≤ ((List.range n).flatMap f).length := by
  induction n with
  | zero => rw [Nat.le_zero.1 h]; exact Nat.le_refl _
  | succ n ih =>
    by_cases hk : k = n + 1
    · rw [hk]; exact Nat.le_refl _
    · have := ih (by omega)
      rw [List.range_succ, List.flatMap_append, List.length_append]
      omega
end Go.Pv
