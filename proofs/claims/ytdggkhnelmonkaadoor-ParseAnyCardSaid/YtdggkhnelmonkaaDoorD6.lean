/- Which tables are alike; how many types are in one: as data. No condition. -/
import Derived.Test.YtdggkhnelmonkaaDoorD1
namespace Go.Pv

abbrev Al.av (a : Al) : AV := .agg [.d (.str a.name), .d (.int .u8 a.ty.kind), .d (.int .i64 a.ty.most), .d (.sl (a.ty.names.map fun s => [.str s])), .d (.sl (a.ty.of.map KT.row))]
abbrev Pc.av (p : Pc) : AV := .agg [.d (.str p.name), .d (.int .i64 p.number), .d (.int .u8 p.takes.kind), .d (.int .i64 p.takes.most), .d (.sl (p.takes.names.map fun s => [.str s])), .d (.sl (p.takes.of.map KT.row)), .d (.int .u8 p.answers.kind), .d (.int .i64 p.answers.most), .d (.sl (p.answers.names.map fun s => [.str s])), .d (.sl (p.answers.of.map KT.row)), .d (.int .u8 p.collate), .d (.int .i64 p.timeout)]
def Al.same (a b : Al) : Bool := seqB a.name b.name && a.ty.same b.ty
def Fl.same (a b : Fl) : Bool := seqB a.name b.name && a.number == b.number
def Pc.same (a b : Pc) : Bool := seqB a.name b.name && a.number == b.number && a.takes.same b.takes && a.answers.same b.answers && a.collate == b.collate && a.timeout == b.timeout
def TB.alike (t u : TB) : Bool := seqB t.name u.name && t.number == u.number && t.version == u.version && eqAll Al.same t.types u.types && eqAll Fl.same t.faults u.faults && eqAll Pc.same t.procs u.procs

theorem eqAll_drop {α : Type} {e : α → α → Bool} {l k : List α} {i : Nat} {x y : α} (hx : l[i]? = some x) (hy : k[i]? = some y) : eqAll e (l.drop i) (k.drop i) = (e x y && eqAll e (l.drop (i + 1)) (k.drop (i + 1))) := by
  rw [drop_at hx, drop_at hy]; rfl
theorem eqAll_ne {α : Type} {e : α → α → Bool} {l k : List α} (h : l.length ≠ k.length) : eqAll e l k = false := by
  cases hh : eqAll e l k with
  | false => rfl
  | true => exact absurd (eqAll_len hh) h

/-- How many types are in one, itself, too; what is told of a reference: what it stands for. -/
def cnt : Nat → List Al → KT → Nat
  | 0, _, _ => 1
  | d + 1, types, x => if x.kind = 9 then match types[refAt types x.names]? with | some a => cnt d (types.take (refAt types x.names)) a.ty | none => 1 + ((x.of.map (cnt d types)).sum) else 1 + (x.of.map (cnt d types)).sum
/-- No deeper than 'd', and references have a name. -/
def dok : Nat → List Al → KT → Prop
  | 0, _, _ => False
  | d + 1, types, x => (x.kind = 9 → x.names.length = 1 ∧ ∀ i (h : i < types.length), dok d (types.take i) types[i].ty) ∧ ∀ o ∈ x.of, dok d types o
def Find (l : List Pc) (n : Int) : Option Pc := l.find? fun p => p.number == n
def Pc.zero : Pc := ⟨bs [], 0, .mk 0 0 [] [], .mk 0 0 [] [], 0, 0⟩
end Go.Pv
/- What the types that small numbers stand for are like. No condition. -/
namespace Go.Pv

theorem Nd.kd_deep {t : Nd} {deep : Nat} {known : List ByteArray} (h : t.kd deep known = 5 ∨ t.kd deep known = 6 ∨ t.kd deep known = 8) : 2 ≤ deep := by
  unfold Nd.kd at h
  split at h
  · omega
  · rename_i h1
    omega
theorem Nd.kd_known {t : Nd} {deep : Nat} {known : List ByteArray} (h : t.kd deep known = 9) : known.length ≠ 0 := by
  unfold Nd.kd at h
  split at h
  · omega
  · rename_i h1
    omega

theorem typ_succ (d : Nat) (t : Nd) (known : List ByteArray) : Nd.typ (d + 1) t known = t.typW (t.kd (d + 1) known) known (Nd.subW (fun y => Nd.typ d y known) t) := rfl
/-- What is so of all types of less depth is so of all. -/
theorem typ_ind {P : Nat → KT → Prop} (known : List ByteArray) (hbase : ∀ d k, 1 ≤ d → 0 ≤ k → k ≤ 3 → P d (.mk k 0 [] []))
    (htext : ∀ d m, 1 ≤ d → 1 ≤ m → m ≤ 60 → P d (.mk 4 m [] [])) (hseq : ∀ d m o, 1 ≤ d → 1 ≤ m → m ≤ 60 → P d o → P (d + 1) (.mk 5 m [] [o]))
    (hrec : ∀ d k n (many : Nat) (sub : Nat → KT), 1 ≤ d → (k = 6 ∨ k = 8) → 0 ≤ n → n ≤ 255 → 1 ≤ many → many ≤ 3 → (∀ i, i < many → P d (sub i)) → P (d + 1) (.mk k 0 ((List.range many).map fun i => nameOf i n) ((List.range many).map sub)))
    (henum : ∀ d n (many : Nat), 1 ≤ d → 0 ≤ n → n ≤ 255 → 1 ≤ many → many ≤ 3 → P d (.mk 7 0 ((List.range many).map fun i => nameOf i n) []))
    (href : ∀ d i (h : i < known.length), 1 ≤ d → P d (.mk 9 0 [known[i]] [])) : ∀ (d : Nat) (t : Nd), 1 ≤ d → t.fit → P d (Nd.typ d t known) := by
  intro d
  induction d with
  | zero => intro t h; omega
  | succ d ih =>
    intro t _ ht
    have htf := ht
    rw [Nd.fit_eq] at ht
    obtain ⟨hk, hn, ho, hof⟩ := ht
    have hkd := Nd.kd_ge (t := t) (deep := d + 1) (known := known)
    have hdeep := Nd.kd_deep (t := t) (deep := d + 1) (known := known)
    have hkn := Nd.kd_known (t := t) (deep := d + 1) (known := known)
    have hmany : 1 ≤ t.many ∧ t.many ≤ 3 := by unfold Nd.many; omega
    rw [typ_succ]
    generalize t.kd (d + 1) known = k at *
    have hsub : 1 ≤ d → ∀ i, P d (Nd.subW (fun y => Nd.typ d y known) t i) := by
      intro hd i
      unfold Nd.subW
      split
      · exact hbase d _ hd (by omega) (by omega)
      · rename_i y hy
        exact ih y hd (hof y (List.mem_of_getElem? hy))
    unfold Nd.typW
    split
    · exact htext _ _ (by omega) (by omega) (by omega)
    split
    · exact hseq d _ _ (by omega) (by omega) (by omega) (hsub (by omega) 0)
    split
    · exact hrec d k t.n t.many _ (by omega) (by assumption) hn.1 hn.2 hmany.1 hmany.2 fun i _ => hsub (by omega) i
    split
    · exact henum _ _ _ (by omega) hn.1 hn.2 hmany.1 hmany.2
    split
    · rename_i h9
      have hlt : t.n.toNat % known.length < known.length := Nat.mod_lt _ (by have := hkn h9; omega)
      rw [List.getD_eq_getElem?_getD, List.getElem?_eq_getElem hlt]
      exact href _ _ hlt (by omega)
    · exact hbase _ k (by omega) hkd.1 (by omega)

theorem nameOf_low {i : Nat} {n : Int} (hi : i < 3) : nameOf i n = bs [97 + i, 65 + (n % 26).toNat, 48] := by
  unfold nameOf
  rw [show i % 26 = i by omega, show i / 26 % 10 = 0 by omega, show (65 + n % 26).toNat = 65 + (n % 26).toNat by omega]
theorem names_low : ∀ k : Fin 3, ∀ m : Fin 26, namesM ((List.range (k.val + 1)).map fun i => bs [97 + i, 65 + m.val, 48]) = 0 := by decide +kernel
theorem namesM_low {many : Nat} {n : Int} (h1 : 1 ≤ many) (h2 : many ≤ 3) : namesM ((List.range many).map fun i => nameOf i n) = 0 := by
  have := names_low ⟨many - 1, by omega⟩ ⟨(n % 26).toNat, by omega⟩
  simp only [show many - 1 + 1 = many by omega] at this
  rw [← this]
  congr 1
  exact List.map_congr_left fun i hi => nameOf_low (by simp at hi; omega)

theorem fits_of {l : List KT} (h : ∀ t ∈ l, t.fit) : KT.fits l := by
  induction l with
  | nil => trivial
  | cons t ts ih => exact ⟨h t List.mem_cons_self, ih fun u hu => h u (List.mem_cons_of_mem _ hu)⟩
theorem nameOf_size (i : Nat) (n : Int) : (nameOf i n).size = 3 := rfl
theorem fitS_names {many : Nat} {n : Int} (h : many ≤ 3) : fitS ((List.range many).map fun i => nameOf i n) :=
  ⟨by simp; omega, fun s hs => by
    obtain ⟨i, _, rfl⟩ := List.mem_map.1 hs
    rw [nameOf_size]; decide⟩
theorem fitS_nil : fitS [] := ⟨by decide, fun s h => by cases h⟩
theorem typ_fit {d : Nat} {t : Nd} {known : List ByteArray} (hd : 1 ≤ d) (ht : t.fit) (hk : ∀ s ∈ known, s.size < 2 ^ 60) : (Nd.typ d t known).fit :=
  typ_ind (P := fun _ x => x.fit) known (fun _ _ _ _ _ => ⟨fitS_nil, (show 0 < 2 ^ 40 by decide), trivial⟩) (fun _ _ _ _ _ => ⟨fitS_nil, (show 0 < 2 ^ 40 by decide), trivial⟩)
    (fun _ _ _ _ _ _ h => ⟨fitS_nil, (show 1 < 2 ^ 40 by decide), h, trivial⟩)
    (fun _ _ _ _ _ _ _ _ _ _ h2 h => ⟨fitS_names h2, by simp; omega, fits_of fun u hu => by
      obtain ⟨i, hi, rfl⟩ := List.mem_map.1 hu
      exact h i (by simpa using hi)⟩)
    (fun _ _ _ _ _ _ _ h => ⟨fitS_names h, (show 0 < 2 ^ 40 by decide), trivial⟩)
    (fun _ i h _ => ⟨⟨by simp, fun s hs => by rw [List.mem_singleton.1 hs]; exact hk _ (List.getElem_mem h)⟩, (show 0 < 2 ^ 40 by decide), trivial⟩) d t hd ht

theorem smem_of {x : ByteArray} {l : List ByteArray} (h : x ∈ l) : smem x l = true := List.any_eq_true.2 ⟨x, h, seqB_iff.2 rfl⟩
theorem check_zero {k m : Int} {n : List ByteArray} {o : List KT} {D : Int} {known : List ByteArray} (h1 : formE k m n o.length D = 0) (h2 : nameE k n known = 0) (h3 : KT.checks o (D - 1) known = 0) : (KT.mk k m n o).check D known = 0 := by
  simp [KT.check, h1, h2, h3]
theorem formE_zero {k m : Int} {n : List ByteArray} {o : Nat} {D : Int} (h1 : k < 10 ∧ 1 ≤ D) (h2 : ((k = 4 ∨ k = 5) → 1 ≤ m ∧ m ≤ 60) ∧ (¬ (k = 4 ∨ k = 5) → m = 0)) (h3 : o = manyOf k n) (h4 : (k ≤ 5 → n.length = 0) ∧ (k = 9 → n.length = 1)) : formE k m n o D = 0 := by
  unfold formE
  rw [if_neg (by omega), if_neg (by omega), if_neg (by omega)]
theorem nameE_zero {k : Int} {n known : List ByteArray} (h1 : 6 ≤ k ∧ k ≤ 8 → namesM n = 0) (h2 : k = 9 → smem (n.getD 0 (bs [])) known = true) : nameE k n known = 0 := by
  unfold nameE
  rw [if_neg (fun h => h.2.2 (h1 ⟨h.1, h.2.1⟩)), if_neg (fun h => by rw [h2 h.1] at h; cases h.2)]
/-- It may be one. -/
theorem typ_check {d : Nat} {t : Nd} {known : List ByteArray} (hd : 1 ≤ d) (ht : t.fit) : ∀ D : Int, d ≤ D → (Nd.typ d t known).check D known = 0 := by
  refine typ_ind (P := fun d x => ∀ D : Int, d ≤ D → x.check D known = 0) known ?_ ?_ ?_ ?_ ?_ ?_ d t hd ht
  · intro d k h1 h2 h3 D hD
    exact check_zero (formE_zero (by omega) (by omega) (by rw [manyOf, if_neg (by omega), if_neg (by omega)]; rfl) ⟨fun _ => rfl, by omega⟩) (nameE_zero (by omega) (by omega)) rfl
  · intro d m h1 h2 h3 D hD
    exact check_zero (formE_zero (by omega) (by omega) rfl ⟨fun _ => rfl, by omega⟩) (nameE_zero (by omega) (by omega)) rfl
  · intro d m o h1 h2 h3 h D hD
    exact check_zero (formE_zero (by omega) (by omega) rfl ⟨fun _ => rfl, by omega⟩) (nameE_zero (by omega) (by omega)) (KT.checks_zero.2 fun u hu => by rw [List.mem_singleton.1 hu]; exact h _ (by omega))
  · intro d k n many sub h1 h2 h3 h4 h5 h6 h D hD
    refine check_zero (formE_zero (by omega) (by omega) (by rw [manyOf, if_neg (by omega), if_pos h2]; simp) ⟨by omega, by omega⟩) (nameE_zero (fun _ => namesM_low h5 h6) (by omega)) (KT.checks_zero.2 fun u hu => ?_)
    obtain ⟨i, hi, rfl⟩ := List.mem_map.1 hu
    exact h i (by simpa using hi) (D - 1) (by omega)
  · intro d n many h1 h2 h3 h4 h5 D hD
    exact check_zero (formE_zero (by omega) (by omega) rfl ⟨by omega, by omega⟩) (nameE_zero (fun _ => namesM_low h4 h5) (by omega)) rfl
  · intro d i hi h1 D hD
    exact check_zero (formE_zero (by omega) (by omega) rfl ⟨by omega, fun _ => rfl⟩) (nameE_zero (by omega) (fun _ => smem_of (List.getElem_mem hi))) rfl
end Go.Pv
/- Whole types, and how many parts they have. No condition. -/
namespace Go.Pv

/-- No deeper than 'd'; each reference stands for something. -/
def dokc : Nat → List Al → KT → Prop
  | 0, _, _ => False
  | d + 1, types, x => (x.kind = 9 → x.names.length = 1 ∧ refAt types x.names < types.length ∧ ∀ i (h : i < types.length), dokc d (types.take i) types[i].ty) ∧ ∀ o ∈ x.of, dokc d types o
theorem dokc_dok : ∀ {d : Nat} {types : List Al} {x : KT}, dokc d types x → dok d types x
  | 0, _, _, h => h
  | _ + 1, _, _, h => ⟨fun e => ⟨(h.1 e).1, fun i hi => dokc_dok ((h.1 e).2.2 i hi)⟩, fun o ho => dokc_dok (h.2 o ho)⟩
/-- What a type is, whole. -/
def flat : Nat → List Al → KT → KT
  | 0, _, x => x
  | d + 1, types, x => if x.kind = 9 then match types[refAt types x.names]? with | some a => flat d (types.take (refAt types x.names)) a.ty | none => x else .mk x.kind x.most x.names (x.of.map (flat d types))

theorem foldW_cnt {f : KT → Int → (KT × Int) × Int} {c : KT → Nat} {g : KT → KT} : ∀ {l : List KT}, (∀ x ∈ l, ∀ left : Int, 0 ≤ left → ((c x : Int) ≤ left → f x left = ((g x, 0), left - c x)) ∧ (left < c x → (f x left).1.2 = 6)) → ∀ left : Int, 0 ≤ left →
    (((l.map c).sum : Int) ≤ left → foldW f l left = ((l.map g, 0), left - (l.map c).sum)) ∧ (left < (l.map c).sum → (foldW f l left).1.2 = 6)
  | [], _, left, hl => ⟨fun _ => by simp [foldW], fun h => by simp at h; omega⟩
  | x :: xs, h, left, hl => by
    obtain ⟨h1, h2⟩ := h x List.mem_cons_self left hl
    simp only [List.map_cons, List.sum_cons, foldW]
    by_cases hx : (c x : Int) ≤ left
    · rw [h1 hx]
      obtain ⟨k1, k2⟩ := foldW_cnt (fun y hy => h y (List.mem_cons_of_mem _ hy)) (left - c x) (by omega)
      simp only [ne_eq, not_true_eq_false, if_false]
      refine ⟨fun hs => ?_, fun hs => ?_⟩
      · rw [k1 (by omega)]
        simp only [not_true_eq_false, if_false, Prod.mk.injEq, true_and]
        omega
      · rw [if_pos (by rw [k2 (by omega)]; decide)]
        exact k2 (by omega)
    · have := h2 (by omega)
      refine ⟨fun hs => by omega, fun _ => ?_⟩
      rw [if_pos (by rw [this]; decide)]
      exact this
theorem wholeM_cnt : ∀ {d : Nat} {types : List Al} {x : KT}, dokc d types x → ∀ left : Int, 0 ≤ left →
    ((cnt d types x : Int) ≤ left → wholeM d types x left = ((flat d types x, 0), left - cnt d types x)) ∧ (left < cnt d types x → (wholeM d types x left).1.2 = 6)
  | 0, _, _, h, _, _ => h.elim
  | d + 1, types, x, ⟨h1, h2⟩, left, hl => by
    by_cases hk : x.kind = 9
    · obtain ⟨_, hr, h4⟩ := h1 hk
      have hat : types[refAt types x.names]? = some types[refAt types x.names] := List.getElem?_eq_getElem hr
      have := wholeM_cnt (h4 _ hr) left hl
      simp only [wholeM, cnt, flat, if_pos hk, hat]
      exact this
    · have hf := foldW_cnt (f := wholeM d types) (c := cnt d types) (g := flat d types) (l := x.of) (fun o ho left hl => wholeM_cnt (h2 o ho) left hl) (left - 1)
      simp only [wholeM, cnt, flat, if_neg hk]
      by_cases h0 : left - 1 < 0
      · rw [if_pos h0]
        exact ⟨fun h => by omega, fun _ => rfl⟩
      · rw [if_neg h0]
        obtain ⟨k1, k2⟩ := hf (by omega)
        refine ⟨fun h => ?_, fun h => ?_⟩
        · rw [k1 (by omega)]
          simp only [ne_eq, not_true_eq_false, if_false, Prod.mk.injEq, true_and]
          omega
        · rw [if_pos (by rw [k2 (by omega)]; decide)]
          exact k2 (by omega)
theorem cnt_pos : ∀ (d : Nat) (types : List Al) (x : KT), 1 ≤ cnt d types x
  | 0, _, _ => Nat.le_refl _
  | d + 1, types, x => by
    unfold cnt
    split
    · split
      · exact cnt_pos d _ _
      · omega
    · omega

mutual
def KT.plain : KT → Bool
  | .mk k _ _ o => k != 9 && KT.plains o
def KT.plains : List KT → Bool
  | [] => true
  | t :: ts => t.plain && KT.plains ts
end
mutual
def KT.nodes : KT → Nat
  | .mk _ _ _ o => 1 + KT.nodess o
def KT.nodess : List KT → Nat
  | [] => 0
  | t :: ts => t.nodes + KT.nodess ts
end
theorem KT.plains_all : ∀ l, KT.plains l = l.all KT.plain
  | [] => rfl
  | t :: ts => by simp [KT.plains, KT.plains_all ts]
theorem KT.nodess_sum : ∀ l, KT.nodess l = (l.map KT.nodes).sum
  | [] => rfl
  | t :: ts => by simp [KT.nodess, KT.nodess_sum ts]
theorem KT.plain_eq (t : KT) : t.plain = (t.kind != 9 && t.of.all KT.plain) := by
  obtain ⟨k, m, n, o⟩ := t
  simp [KT.plain, KT.plains_all, KT.kind, KT.of]
theorem KT.nodes_eq (t : KT) : t.nodes = 1 + (t.of.map KT.nodes).sum := by
  obtain ⟨k, m, n, o⟩ := t
  simp [KT.nodes, KT.nodess_sum, KT.of]
theorem flat_plain : ∀ {d : Nat} {types : List Al} {x : KT}, dokc d types x → (flat d types x).plain = true ∧ (flat d types x).nodes = cnt d types x
  | 0, _, _, h => h.elim
  | d + 1, types, x, ⟨h1, h2⟩ => by
    by_cases hk : x.kind = 9
    · obtain ⟨_, hr, h4⟩ := h1 hk
      have hat : types[refAt types x.names]? = some types[refAt types x.names] := List.getElem?_eq_getElem hr
      simp only [cnt, flat, if_pos hk, hat]
      exact flat_plain (h4 _ hr)
    · have ih := fun o ho => flat_plain (h2 o ho)
      simp only [cnt, flat, if_neg hk]
      rw [KT.plain_eq, KT.nodes_eq]
      simp only [ktp]
      refine ⟨?_, ?_⟩
      · simp only [Bool.and_eq_true, bne_iff_ne, ne_eq, hk, not_false_eq_true, true_and, List.all_map, List.all_eq_true]
        exact fun o ho => (ih o ho).1
      · rw [List.map_map]
        congr 2
        exact List.map_congr_left fun o ho => (ih o ho).2
/-- A type without references is whole as it is. -/
theorem flat_same : ∀ {d : Nat} {types : List Al} {x : KT}, x.plain = true → flat d types x = x
  | 0, _, _, _ => rfl
  | d + 1, types, x, h => by
    rw [KT.plain_eq, Bool.and_eq_true, bne_iff_ne, List.all_eq_true] at h
    simp only [flat, if_neg h.1]
    obtain ⟨k, m, n, o⟩ := x
    simp only [ktp] at h ⊢
    congr 1
    have : o.map (flat d types) = o.map id := List.map_congr_left fun u hu => flat_same (h.2 u hu)
    rw [this, List.map_id]
theorem dokc_flat : ∀ {d : Nat} {types types' : List Al} {x : KT}, dokc d types x → dokc d types' (flat d types x)
  | 0, _, _, _, h => h.elim
  | d + 1, types, types', x, ⟨h1, h2⟩ => by
    by_cases hk : x.kind = 9
    · obtain ⟨_, hr, h4⟩ := h1 hk
      have hat : types[refAt types x.names]? = some types[refAt types x.names] := List.getElem?_eq_getElem hr
      simp only [flat, if_pos hk, hat]
      have := dokc_flat (types' := types') (h4 _ hr)
      have hp := (flat_plain (h4 _ hr)).1
      generalize flat d _ _ = y at *
      exact lift this hp
    · simp only [flat, if_neg hk]
      refine ⟨fun e => absurd e (by simpa only [ktp] using hk), fun o ho => ?_⟩
      simp only [ktp] at ho
      obtain ⟨u, hu, rfl⟩ := List.mem_map.1 ho
      exact dokc_flat (h2 u hu)
where
  lift : ∀ {d : Nat} {types : List Al} {y : KT}, dokc d types y → y.plain = true → dokc (d + 1) types y
    | 0, _, _, h, _ => h.elim
    | d + 1, types, y, h, hp => by
      rw [KT.plain_eq, Bool.and_eq_true, bne_iff_ne, List.all_eq_true] at hp
      exact ⟨fun e => absurd e hp.1, fun o ho => lift (h.2 o ho) (hp.2 o ho)⟩
end Go.Pv
/- What the tables that small numbers stand for are like. No condition. -/
namespace Go.Pv

theorem Nd.zero_fit : Nd.zero.fit := by rw [Nd.fit_eq]; exact ⟨by decide, by decide, by decide, fun x h => by cases h⟩
section
variable {s : Sm} (hf : s.fit)
def Sm.types (s : Sm) (m : Nat) : List Al := (List.range m).map s.al
theorem Sm.types_len (s : Sm) (m : Nat) : (s.types m).length = m := by simp [Sm.types]
theorem Sm.types_get (s : Sm) {m i : Nat} (h : i < (s.types m).length) : (s.types m)[i] = s.al i := by simp [Sm.types]
theorem Sm.types_take (s : Sm) {m i : Nat} (h : i ≤ m) : (s.types m).take i = s.types i := by
  unfold Sm.types
  rw [← List.map_take, List.take_range, Nat.min_eq_left h]
theorem known_len (m : Nat) : (known m).length = m := by simp [known]
theorem known_get {m i : Nat} (h : i < (known m).length) : (known m)[i] = tname i := by simp [known]
theorem types_names (m : Nat) : (s.types m).map Al.name = known m := by simp [Sm.types, known, Sm.al, Function.comp_def]
include hf in
theorem alias_fit (i : Nat) : (s.aliases.getD i Nd.zero).fit := by
  rw [List.getD_eq_getElem?_getD]
  cases h : s.aliases[i]? with
  | none => exact Nd.zero_fit
  | some y => exact hf.aliases y (List.mem_of_getElem? h)
include hf in
theorem proc_fit (i : Nat) : (s.procs.getD i ⟨Nd.zero, Nd.zero, 0, 0⟩).fit := by
  rw [List.getD_eq_getElem?_getD]
  cases h : s.procs[i]? with
  | none => exact ⟨Nd.zero_fit, Nd.zero_fit, by decide, by decide⟩
  | some y => exact hf.procs y (List.mem_of_getElem? h)
theorem ref_hit {m i : Nat} (hi : i < m) : refAt (s.types m) [tname i] < (s.types m).length := by
  unfold refAt
  rw [List.findIdx_lt_length]
  refine ⟨s.al i, List.mem_map.2 ⟨i, by simpa using hi, rfl⟩, ?_⟩
  simp only [List.length_singleton, decide_true, Bool.true_and, List.getD_cons_zero]
  exact seqB_iff.2 rfl
theorem typ_dokc (m : Nat) (IH : ∀ i, i < m → ∀ D, 3 + 3 * i ≤ D → dokc D (s.types i) (s.al i).ty) {d : Nat} {x : Nd} (hd : 1 ≤ d) (hx : x.fit) : ∀ D, d + 3 * m ≤ D → dokc D (s.types m) (Nd.typ d x (known m)) := by
  refine typ_ind (P := fun d y => ∀ D, d + 3 * m ≤ D → dokc D (s.types m) y) (known m) ?_ ?_ ?_ ?_ ?_ ?_ d x hd hx
  · intro d k h1 h2 h3 D hD
    obtain ⟨D, rfl⟩ : ∃ D', D = D' + 1 := ⟨D - 1, by omega⟩
    exact ⟨fun e => by simp only [ktp] at e; omega, fun o ho => by cases ho⟩
  · intro d k h1 h2 h3 D hD
    obtain ⟨D, rfl⟩ : ∃ D', D = D' + 1 := ⟨D - 1, by omega⟩
    exact ⟨fun e => by simp only [ktp] at e; omega, fun o ho => by cases ho⟩
  · intro d k o h1 h2 h3 h D hD
    obtain ⟨D, rfl⟩ : ∃ D', D = D' + 1 := ⟨D - 1, by omega⟩
    exact ⟨fun e => by simp only [ktp] at e; omega, fun u hu => by simp only [ktp] at hu; rw [List.mem_singleton.1 hu]; exact h D (by omega)⟩
  · intro d k n many sub h1 h2 h3 h4 h5 h6 h D hD
    obtain ⟨D, rfl⟩ : ∃ D', D = D' + 1 := ⟨D - 1, by omega⟩
    refine ⟨fun e => by simp only [ktp] at e; omega, fun u hu => ?_⟩
    simp only [ktp] at hu
    obtain ⟨i, hi, rfl⟩ := List.mem_map.1 hu
    exact h i (by simpa using hi) D (by omega)
  · intro d n many h1 h2 h3 h4 h5 D hD
    obtain ⟨D, rfl⟩ : ∃ D', D = D' + 1 := ⟨D - 1, by omega⟩
    exact ⟨fun e => by simp only [ktp] at e; omega, fun o ho => by cases ho⟩
  · intro d i hi h1 D hD
    obtain ⟨D, rfl⟩ : ∃ D', D = D' + 1 := ⟨D - 1, by omega⟩
    have him : i < m := by rwa [known_len] at hi
    refine ⟨fun _ => ⟨rfl, ?_, fun j hj => ?_⟩, fun o ho => by cases ho⟩
    · simp only [ktp]
      rw [known_get]
      exact ref_hit him
    · rw [Sm.types_len] at hj
      rw [Sm.types_get, Sm.types_take s (by omega)]
      exact IH j hj D (by omega)
include hf in
theorem al_dokc : ∀ i D, 3 + 3 * i ≤ D → dokc D (s.types i) (s.al i).ty := by
  intro i
  induction i using Nat.strongRecOn with
  | ind i ih => exact typ_dokc i ih (by decide) (alias_fit hf i)
include hf in
theorem types_dokc (m : Nat) {x : Nd} (hx : x.fit) {D : Nat} (hD : 3 + 3 * m ≤ D) : dokc D (s.types m) (Nd.typ 3 x (known m)) := typ_dokc m (fun i _ => al_dokc hf i) (by decide) hx D hD

theorem tname_size (i : Nat) : (tname i).size = 4 := rfl
theorem ename_size (i : Nat) : (ename i).size = 4 := rfl
theorem pname_size (i : Nat) : (pname i).size = 4 := rfl
theorem known_small (m : Nat) : ∀ s ∈ known m, s.size < 2 ^ 60 := fun s hs => by
  obtain ⟨i, _, rfl⟩ := List.mem_map.1 hs
  rw [tname_size]; decide
theorem as_le (s : Sm) : s.as ≤ 4 := Nat.min_le_right _ _
theorem ps_le (s : Sm) : s.ps ≤ 4 := Nat.min_le_right _ _
include hf in
theorem fs_lt : s.fs < 4 := by have := hf.faults; unfold Sm.fs; omega
include hf in
theorem al_fit (i : Nat) : (s.al i).ty.fit := typ_fit (by decide) (alias_fit hf i) (known_small i)
include hf in
theorem pc_fit (i : Nat) : (s.pc i).takes.fit ∧ (s.pc i).answers.fit := ⟨typ_fit (by decide) (proc_fit hf i).1 (known_small _), typ_fit (by decide) (proc_fit hf i).2.1 (known_small _)⟩
include hf in
theorem tb_fit : s.tb.fit where
  name := by show face.size < _; decide
  types := ⟨by have := as_le s; simp [Sm.tb]; omega, fun a ha => by
    obtain ⟨i, _, rfl⟩ := List.mem_map.1 ha; exact al_fit hf i⟩
  tnames := fun a ha => by obtain ⟨i, _, rfl⟩ := List.mem_map.1 ha; show (tname i).size < _; rw [tname_size]; decide
  faults := by have := fs_lt hf; simp [Sm.tb]; omega
  fnames := fun a ha => by obtain ⟨i, _, rfl⟩ := List.mem_map.1 ha; show (ename i).size < _; rw [ename_size]; decide
  procs := by have := ps_le s; simp [Sm.tb]; omega
  pnames := fun a ha => by obtain ⟨i, _, rfl⟩ := List.mem_map.1 ha; show (pname i).size < _; rw [pname_size]; decide
  pfit := fun a ha => by obtain ⟨i, _, rfl⟩ := List.mem_map.1 ha; exact pc_fit hf i

theorem inNum_of {n : Int} (h1 : 0 ≤ n) (h2 : n ≤ 65535) : inNum n = true := by simp [inNum, h1, h2]
/-- All names are names, and apart. -/
def enames (k : Nat) : List ByteArray := (List.range k).map ename
def pnames (k : Nat) : List ByteArray := (List.range k).map pname
theorem fresh_t : ∀ i : Fin 4, freshE (tname i) (known i) = 0 := by decide +kernel
theorem fresh_e : ∀ a : Fin 5, ∀ i : Fin 4, freshE (ename i) (known a ++ enames i) = 0 := by decide +kernel
theorem fresh_p : ∀ a : Fin 5, ∀ f : Fin 4, ∀ i : Fin 4, freshE (pname i) (known a ++ enames f ++ pnames i) = 0 := by decide +kernel

include hf in
theorem types_ok : ∀ (n k : Nat), k + n ≤ 4 → typesE ((List.range' k n).map s.al) (known k) = 0
  | 0, _, _ => rfl
  | n + 1, k, h => by
    rw [List.range'_succ, List.map_cons, typesE]
    have h1 : freshE (s.al k).name (known k) = 0 := fresh_t ⟨k, by omega⟩
    have h2 : (s.al k).ty.check 5 (known k) = 0 := typ_check (by decide) (alias_fit hf k) 5 (by decide)
    rw [if_neg (by simp [h1]), if_neg (by simp [h2])]
    have : known k ++ [(s.al k).name] = known (k + 1) := by rw [known, known, range_snoc]; rfl
    rw [this]
    exact types_ok n (k + 1) (by omega)
theorem faults_ok (a : Nat) (ha : a ≤ 4) : ∀ (n k : Nat), k + n ≤ 4 → faultsE ((List.range' k n).map flOf) (known a ++ enames k) ((List.range k).map fun i : Nat => (10 * i : Int)) = 0
  | 0, _, _ => rfl
  | n + 1, k, h => by
    rw [List.range'_succ, List.map_cons, faultsE]
    have h1 : freshE (flOf k).name (known a ++ enames k) = 0 := fresh_e ⟨a, by omega⟩ ⟨k, by omega⟩
    have h2 : inNum (flOf k).number = true := inNum_of (show 0 ≤ 10 * (k : Int) by omega) (show 10 * (k : Int) ≤ 65535 by omega)
    have h3 : (flOf k).number ∉ (List.range k).map fun i : Nat => (10 * i : Int) := by
      simp only [flOf, List.mem_map, List.mem_range, not_exists, not_and]
      intro i hi e; omega
    rw [if_neg (by simp [h1]), if_neg (by simp [h2]), if_neg h3]
    have e1 : known a ++ enames k ++ [(flOf k).name] = known a ++ enames (k + 1) := by rw [List.append_assoc, enames, enames, range_snoc]; rfl
    have e2 : ((List.range k).map fun i : Nat => (10 * i : Int)) ++ [(flOf k).number] = (List.range (k + 1)).map fun i : Nat => (10 * i : Int) := by rw [range_snoc]; rfl
    rw [e1, e2]
    exact faults_ok a ha n (k + 1) (by omega)
/-- Has a procedure no type with too many parts? -/
def few (types : List Al) (p : Pc) : Bool := decide (cnt 20 types p.takes ≤ 200) && decide (cnt 20 types p.answers ≤ 200)
include hf in
theorem pc_dokc (i : Nat) : dokc 20 (s.types s.as) (s.pc i).takes ∧ dokc 20 (s.types s.as) (s.pc i).answers := by
  have := as_le s
  exact ⟨types_dokc hf _ (proc_fit hf i).1 (by omega), types_dokc hf _ (proc_fit hf i).2.1 (by omega)⟩
include hf in
theorem parts_few (i : Nat) : partsE (s.types s.as) (known s.as) [(s.pc i).takes, (s.pc i).answers] = if few (s.types s.as) (s.pc i) = true then 0 else 6 := by
  obtain ⟨h1, h2⟩ := pc_dokc hf i
  have c1 : (s.pc i).takes.check 5 (known s.as) = 0 := typ_check (by decide) (proc_fit hf i).1 5 (by decide)
  have c2 : (s.pc i).answers.check 5 (known s.as) = 0 := typ_check (by decide) (proc_fit hf i).2.1 5 (by decide)
  have w1 := wholeM_cnt h1 200 (by decide)
  have w2 := wholeM_cnt h2 200 (by decide)
  simp only [partsE, c1, c2, few]
  generalize wholeM 20 (s.types s.as) (s.pc i).takes 200 = W1 at *
  generalize wholeM 20 (s.types s.as) (s.pc i).answers 200 = W2 at *
  by_cases k1 : cnt 20 (s.types s.as) (s.pc i).takes ≤ 200
  · rw [w1.1 (by omega)]
    by_cases k2 : cnt 20 (s.types s.as) (s.pc i).answers ≤ 200
    · rw [w2.1 (by omega)]; simp [k1, k2]
    · rw [w2.2 (by omega)]; simp [k2]
  · rw [w1.2 (by omega)]; simp [k1]
include hf in
theorem procs_ok (f : Nat) (hff : f < 4) : ∀ (n k : Nat), k + n ≤ 4 →
    procsE (s.types s.as) (known s.as) ((List.range' k n).map s.pc) (known s.as ++ enames f ++ pnames k) ((List.range k).map fun i : Nat => (i + s.number % 9 : Int)) = if ((List.range' k n).map s.pc).all (few (s.types s.as)) = true then 0 else 6
  | 0, _, _ => rfl
  | n + 1, k, h => by
    have has := as_le s
    have hnum := hf.number
    have hpf := proc_fit hf k
    rw [List.range'_succ, List.map_cons, procsE]
    have h1 : freshE (s.pc k).name (known s.as ++ enames f ++ pnames k) = 0 := fresh_p ⟨s.as, by omega⟩ ⟨f, hff⟩ ⟨k, by omega⟩
    have h2 : numsE (s.pc k) = false := by
      have q1 : inNum (s.pc k).number = true := inNum_of (show 0 ≤ (k : Int) + s.number % 9 by omega) (show (k : Int) + s.number % 9 ≤ 65535 by omega)
      have q2 : (s.pc k).collate = (s.procs.getD k ⟨Nd.zero, Nd.zero, 0, 0⟩).collate % 3 := rfl
      have q3 : (s.pc k).timeout = 1 + (s.procs.getD k ⟨Nd.zero, Nd.zero, 0, 0⟩).timeout % 1000 := rfl
      have := hpf.2.2.1
      have := hpf.2.2.2
      rw [numsE, q1, q2, q3, decide_eq_false (by omega), decide_eq_false (by omega), decide_eq_false (by omega)]
      rfl
    have h3 : (s.pc k).number ∉ (List.range k).map fun i : Nat => (i + s.number % 9 : Int) := by
      simp only [Sm.pc, List.mem_map, List.mem_range, not_exists, not_and]
      intro i hi e; omega
    rw [if_neg (by rw [h1]; decide), if_neg (by simp [h2]), if_neg h3, parts_few hf k]
    have e1 : known s.as ++ enames f ++ pnames k ++ [(s.pc k).name] = known s.as ++ enames f ++ pnames (k + 1) := by rw [List.append_assoc (known s.as ++ enames f), pnames, pnames, range_snoc]; rfl
    have e2 : ((List.range k).map fun i : Nat => (i + s.number % 9 : Int)) ++ [(s.pc k).number] = (List.range (k + 1)).map fun i : Nat => (i + s.number % 9 : Int) := by rw [range_snoc]; rfl
    rw [e1, e2, List.all_cons]
    by_cases hfew : few (s.types s.as) (s.pc k) = true
    · rw [if_pos hfew, if_neg (by decide), hfew, Bool.true_and]
      exact procs_ok f hff n (k + 1) (by omega)
    · rw [if_neg hfew, if_pos (by decide)]
      simp [hfew]
include hf in
theorem tb_check : s.tb.check = if s.tb.procs.all (few s.tb.types) = true then 0 else 6 := by
  have has := as_le s
  have hps := ps_le s
  have hfs := fs_lt hf
  have hnum := hf.number
  have h1 := types_ok hf s.as 0 (by omega)
  have h2 := faults_ok s.as has s.fs 0 (by omega)
  have h3 := procs_ok hf s.fs hfs s.ps 0 (by omega)
  rw [← List.range_eq_range'] at h1 h2 h3
  have en : s.tb.names = known s.as := types_names s.as
  have ef : s.tb.faults.map Fl.name = enames s.fs := by simp [Sm.tb, enames, flOf, Function.comp_def]
  have f0 : isName face = true := by decide +kernel
  rw [TB.check, if_neg (by show ¬ isName face = false; rw [f0]; decide), if_neg (by rw [show inNum s.tb.number = true from inNum_of hnum.1 hnum.2, show inNum s.tb.version = true from inNum_of (show 0 ≤ s.number % 7 by omega) (show s.number % 7 ≤ 65535 by omega)]; decide), if_neg (by simp [Sm.tb]; omega), en, ef]
  have h1' : typesE s.tb.types [] = 0 := h1
  have e0 : known s.as ++ enames 0 = known s.as := by simp [enames]
  rw [e0] at h2
  have h2' : faultsE s.tb.faults (known s.as) [] = 0 := h2
  rw [if_neg (by simp [h1']), if_neg (by simp [h2'])]
  have : known s.as ++ enames s.fs ++ pnames 0 = known s.as ++ enames s.fs := by simp [pnames]
  rw [this] at h3
  exact h3
end
end Go.Pv
