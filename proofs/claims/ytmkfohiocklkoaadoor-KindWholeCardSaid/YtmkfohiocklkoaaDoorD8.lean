/- Whole types, and how many parts they have. No condition. -/
import Derived.Test.YtmkfohiocklkoaaDoorD7
namespace Go.Pv

/-- No deeper than 'd'; each reference stands for something. -/
def dokc : Nat → List Al → KT → Prop
  | 0, _, _ => False
  | d + 1, types, x => (x.kind = 9 → x.names.length = 1 ∧ refAt types x.names < types.length ∧ ∀ i (h : i < types.length), dokc d (types.take i) types[i].ty) ∧ ∀ o ∈ x.of, dokc d types o
theorem dokc_dok : ∀ {d : Nat} {types : List Al} {x : KT}, dokc d types x → dok d types x
  | 0, _, _, h => h
  | _ + 1, _, _, h => ⟨fun e => ⟨(h.1 e).1, fun i hi => dokc_dok ((h.1 e).2.2 i hi)⟩, fun o ho => dokc_dok (h.2 o ho)⟩
/-- What a type is, whole. -/
def flat : Nat → List Al → KT → KT
  | 0, _, x => x
  | d + 1, types, x => if x.kind = 9 then match types[refAt types x.names]? with | some a => flat d (types.take (refAt types x.names)) a.ty | none => x else .mk x.kind x.most x.names (x.of.map (flat d types))

theorem foldW_cnt {f : KT → Int → (KT × Int) × Int} {c : KT → Nat} {g : KT → KT} : ∀ {l : List KT}, (∀ x ∈ l, ∀ left : Int, 0 ≤ left → ((c x : Int) ≤ left → f x left = ((g x, 0), left - c x)) ∧ (left < c x → (f x left).1.2 = 6)) → ∀ left : Int, 0 ≤ left →
    (((l.map c).sum : Int) ≤ left → foldW f l left = ((l.map g, 0), left - (l.map c).sum)) ∧ (left < (l.map c).sum → (foldW f l left).1.2 = 6)
  | [], _, left, hl => ⟨fun _ => by simp [foldW], fun h => by simp at h; omega⟩
  | x :: xs, h, left, hl => by
    obtain ⟨h1, h2⟩ := h x List.mem_cons_self left hl
    simp only [List.map_cons, List.sum_cons, foldW]
    by_cases hx : (c x : Int) ≤ left
    · rw [h1 hx]
      obtain ⟨k1, k2⟩ := foldW_cnt (fun y hy => h y (List.mem_cons_of_mem _ hy)) (left - c x) (by omega)
      simp only [ne_eq, not_true_eq_false, if_false]
      refine ⟨fun hs => ?_, fun hs => ?_⟩
      · rw [k1 (by omega)]
        simp only [not_true_eq_false, if_false, Prod.mk.injEq, true_and]
        omega
      · rw [if_pos (by rw [k2 (by omega)]; decide)]
        exact k2 (by omega)
    · have := h2 (by omega)
      refine ⟨fun hs => by omega, fun _ => ?_⟩
      rw [if_pos (by rw [this]; decide)]
      exact this
theorem wholeM_cnt : ∀ {d : Nat} {types : List Al} {x : KT}, dokc d types x → ∀ left : Int, 0 ≤ left →
    ((cnt d types x : Int) ≤ left → wholeM d types x left = ((flat d types x, 0), left - cnt d types x)) ∧ (left < cnt d types x → (wholeM d types x left).1.2 = 6)
  | 0, _, _, h, _, _ => h.elim
  | d + 1, types, x, ⟨h1, h2⟩, left, hl => by
    by_cases hk : x.kind = 9
    · obtain ⟨_, hr, h4⟩ := h1 hk
      have hat : types[refAt types x.names]? = some types[refAt types x.names] := List.getElem?_eq_getElem hr
      have := wholeM_cnt (h4 _ hr) left hl
      simp only [wholeM, cnt, flat, if_pos hk, hat]
      exact this
    · have hf := foldW_cnt (f := wholeM d types) (c := cnt d types) (g := flat d types) (l := x.of) (fun o ho left hl => wholeM_cnt (h2 o ho) left hl) (left - 1)
      simp only [wholeM, cnt, flat, if_neg hk]
      by_cases h0 : left - 1 < 0
      · rw [if_pos h0]
        exact ⟨fun h => by omega, fun _ => rfl⟩
      · rw [if_neg h0]
        obtain ⟨k1, k2⟩ := hf (by omega)
        refine ⟨fun h => ?_, fun h => ?_⟩
        · rw [k1 (by omega)]
          simp only [ne_eq, not_true_eq_false, if_false, Prod.mk.injEq, true_and]
          omega
        · rw [if_pos (by rw [k2 (by omega)]; decide)]
          exact k2 (by omega)
theorem cnt_pos : ∀ (d : Nat) (types : List Al) (x : KT), 1 ≤ cnt d types x
  | 0, _, _ => Nat.le_refl _
  | d + 1, types, x => by
    unfold cnt
    split
    · split
      · exact cnt_pos d _ _
      · omega
    · omega

mutual
def KT.plain : KT → Bool
  | .mk k _ _ o => k != 9 && KT.plains o
def KT.plains : List KT → Bool
  | [] => true
  | t :: ts => t.plain && KT.plains ts
end
mutual
def KT.nodes : KT → Nat
  | .mk _ _ _ o => 1 + KT.nodess o
def KT.nodess : List KT → Nat
  | [] => 0
  | t :: ts => t.nodes + KT.nodess ts
end
theorem KT.plains_all : ∀ l, KT.plains l = l.all KT.plain
  | [] => rfl
  | t :: ts => by simp [KT.plains, KT.plains_all ts]
theorem KT.nodess_sum : ∀ l, KT.nodess l = (l.map KT.nodes).sum
  | [] => rfl
  | t :: ts => by simp [KT.nodess, KT.nodess_sum ts]
theorem KT.plain_eq (t : KT) : t.plain = (t.kind != 9 && t.of.all KT.plain) := by
  obtain ⟨k, m, n, o⟩ := t
  simp [KT.plain, KT.plains_all, KT.kind, KT.of]
theorem KT.nodes_eq (t : KT) : t.nodes = 1 + (t.of.map KT.nodes).sum := by
  obtain ⟨k, m, n, o⟩ := t
  simp [KT.nodes, KT.nodess_sum, KT.of]
theorem flat_plain : ∀ {d : Nat} {types : List Al} {x : KT}, dokc d types x → (flat d types x).plain = true ∧ (flat d types x).nodes = cnt d types x
  | 0, _, _, h => h.elim
  | d + 1, types, x, ⟨h1, h2⟩ => by
    by_cases hk : x.kind = 9
    · obtain ⟨_, hr, h4⟩ := h1 hk
      have hat : types[refAt types x.names]? = some types[refAt types x.names] := List.getElem?_eq_getElem hr
      simp only [cnt, flat, if_pos hk, hat]
      exact flat_plain (h4 _ hr)
    · have ih := fun o ho => flat_plain (h2 o ho)
      simp only [cnt, flat, if_neg hk]
      rw [KT.plain_eq, KT.nodes_eq]
      simp only [ktp]
      refine ⟨?_, ?_⟩
      · simp only [Bool.and_eq_true, bne_iff_ne, ne_eq, hk, not_false_eq_true, true_and, List.all_map, List.all_eq_true]
        exact fun o ho => (ih o ho).1
      · rw [List.map_map]
        congr 2
        exact List.map_congr_left fun o ho => (ih o ho).2
/-- A type without references is whole as it is. -/
theorem flat_same : ∀ {d : Nat} {types : List Al} {x : KT}, x.plain = true → flat d types x = x
  | 0, _, _, _ => rfl
  | d + 1, types, x, h => by
    rw [KT.plain_eq, Bool.and_eq_true, bne_iff_ne, List.all_eq_true] at h
    simp only [flat, if_neg h.1]
    obtain ⟨k, m, n, o⟩ := x
    simp only [ktp] at h ⊢
    congr 1
    have : o.map (flat d types) = o.map id := List.map_congr_left fun u hu => flat_same (h.2 u hu)
    rw [this, List.map_id]
theorem dokc_flat : ∀ {d : Nat} {types types' : List Al} {x : KT}, dokc d types x → dokc d types' (flat d types x)
  | 0, _, _, _, h => h.elim
  | d + 1, types, types', x, ⟨h1, h2⟩ => by
    by_cases hk : x.kind = 9
    · obtain ⟨_, hr, h4⟩ := h1 hk
      have hat : types[refAt types x.names]? = some types[refAt types x.names] := List.getElem?_eq_getElem hr
      simp only [flat, if_pos hk, hat]
      have := dokc_flat (types' := types') (h4 _ hr)
      have hp := (flat_plain (h4 _ hr)).1
      generalize flat d _ _ = y at *
      exact lift this hp
    · simp only [flat, if_neg hk]
      refine ⟨fun e => absurd e (by simpa only [ktp] using hk), fun o ho => ?_⟩
      simp only [ktp] at ho
      obtain ⟨u, hu, rfl⟩ := List.mem_map.1 ho
      exact dokc_flat (h2 u hu)
where
  lift : ∀ {d : Nat} {types : List Al} {y : KT}, dokc d types y → y.plain = true → dokc (d + 1) types y
    | 0, _, _, h, _ => h.elim
    | d + 1, types, y, h, hp => by
      rw [KT.plain_eq, Bool.and_eq_true, bne_iff_ne, List.all_eq_true] at hp
      exact ⟨fun e => absurd e hp.1, fun o ho => lift (h.2 o ho) (hp.2 o ho)⟩
end Go.Pv
