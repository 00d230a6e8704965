/- What the types that small numbers stand for are like. No condition. -/
import Derived.Test.YtmkfohiocklkoaaDoorD6
namespace Go.Pv

theorem Nd.kd_deep {t : Nd} {deep : Nat} {known : List ByteArray} (h : t.kd deep known = 5 ∨ t.kd deep known = 6 ∨ t.kd deep known = 8) : 2 ≤ deep := by
  unfold Nd.kd at h
  split at h
  · omega
  · rename_i h1
    omega
theorem Nd.kd_known {t : Nd} {deep : Nat} {known : List ByteArray} (h : t.kd deep known = 9) : known.length ≠ 0 := by
  unfold Nd.kd at h
  split at h
  · omega
  · rename_i h1
    omega

theorem typ_succ (d : Nat) (t : Nd) (known : List ByteArray) : Nd.typ (d + 1) t known = t.typW (t.kd (d + 1) known) known (Nd.subW (fun y => Nd.typ d y known) t) := rfl
/-- What is so of all types of less depth is so of all. -/
theorem typ_ind {P : Nat → KT → Prop} (known : List ByteArray) (hbase : ∀ d k, 1 ≤ d → 0 ≤ k → k ≤ 3 → P d (.mk k 0 [] []))
    (htext : ∀ d m, 1 ≤ d → 1 ≤ m → m ≤ 60 → P d (.mk 4 m [] [])) (hseq : ∀ d m o, 1 ≤ d → 1 ≤ m → m ≤ 60 → P d o → P (d + 1) (.mk 5 m [] [o]))
    (hrec : ∀ d k n (many : Nat) (sub : Nat → KT), 1 ≤ d → (k = 6 ∨ k = 8) → 0 ≤ n → n ≤ 255 → 1 ≤ many → many ≤ 3 → (∀ i, i < many → P d (sub i)) → P (d + 1) (.mk k 0 ((List.range many).map fun i => nameOf i n) ((List.range many).map sub)))
    (henum : ∀ d n (many : Nat), 1 ≤ d → 0 ≤ n → n ≤ 255 → 1 ≤ many → many ≤ 3 → P d (.mk 7 0 ((List.range many).map fun i => nameOf i n) []))
    (href : ∀ d i (h : i < known.length), 1 ≤ d → P d (.mk 9 0 [known[i]] [])) : ∀ (d : Nat) (t : Nd), 1 ≤ d → t.fit → P d (Nd.typ d t known) := by
  intro d
  induction d with
  | zero => intro t h; omega
  | succ d ih =>
    intro t _ ht
    have htf := ht
    rw [Nd.fit_eq] at ht
    obtain ⟨hk, hn, ho, hof⟩ := ht
    have hkd := Nd.kd_ge (t := t) (deep := d + 1) (known := known)
    have hdeep := Nd.kd_deep (t := t) (deep := d + 1) (known := known)
    have hkn := Nd.kd_known (t := t) (deep := d + 1) (known := known)
    have hmany : 1 ≤ t.many ∧ t.many ≤ 3 := by unfold Nd.many; omega
    rw [typ_succ]
    generalize t.kd (d + 1) known = k at *
    have hsub : 1 ≤ d → ∀ i, P d (Nd.subW (fun y => Nd.typ d y known) t i) := by
      intro hd i
      unfold Nd.subW
      split
      · exact hbase d _ hd (by omega) (by omega)
      · rename_i y hy
        exact ih y hd (hof y (List.mem_of_getElem? hy))
    unfold Nd.typW
    split
    · exact htext _ _ (by omega) (by omega) (by omega)
    split
    · exact hseq d _ _ (by omega) (by omega) (by omega) (hsub (by omega) 0)
    split
    · exact hrec d k t.n t.many _ (by omega) (by assumption) hn.1 hn.2 hmany.1 hmany.2 fun i _ => hsub (by omega) i
    split
    · exact henum _ _ _ (by omega) hn.1 hn.2 hmany.1 hmany.2
    split
    · rename_i h9
      have hlt : t.n.toNat % known.length < known.length := Nat.mod_lt _ (by have := hkn h9; omega)
      rw [List.getD_eq_getElem?_getD, List.getElem?_eq_getElem hlt]
      exact href _ _ hlt (by omega)
    · exact hbase _ k (by omega) hkd.1 (by omega)

theorem nameOf_low {i : Nat} {n : Int} (hi : i < 3) : nameOf i n = bs [97 + i, 65 + (n % 26).toNat, 48] := by
  unfold nameOf
  rw [show i % 26 = i by omega, show i / 26 % 10 = 0 by omega, show (65 + n % 26).toNat = 65 + (n % 26).toNat by omega]
theorem names_low : ∀ k : Fin 3, ∀ m : Fin 26, namesM ((List.range (k.val + 1)).map fun i => bs [97 + i, 65 + m.val, 48]) = 0 := by decide +kernel
theorem namesM_low {many : Nat} {n : Int} (h1 : 1 ≤ many) (h2 : many ≤ 3) : namesM ((List.range many).map fun i => nameOf i n) = 0 := by
  have := names_low ⟨many - 1, by omega⟩ ⟨(n % 26).toNat, by omega⟩
  simp only [show many - 1 + 1 = many by omega] at this
  rw [← this]
  congr 1
  exact List.map_congr_left fun i hi => nameOf_low (by simp at hi; omega)

theorem fits_of {l : List KT} (h : ∀ t ∈ l, t.fit) : KT.fits l := by
  induction l with
  | nil => trivial
  | cons t ts ih => exact ⟨h t List.mem_cons_self, ih fun u hu => h u (List.mem_cons_of_mem _ hu)⟩
theorem nameOf_size (i : Nat) (n : Int) : (nameOf i n).size = 3 := rfl
theorem fitS_names {many : Nat} {n : Int} (h : many ≤ 3) : fitS ((List.range many).map fun i => nameOf i n) :=
  ⟨by simp; omega, fun s hs => by
    obtain ⟨i, _, rfl⟩ := List.mem_map.1 hs
    rw [nameOf_size]; decide⟩
theorem fitS_nil : fitS [] := ⟨by decide, fun s h => by cases h⟩
theorem typ_fit {d : Nat} {t : Nd} {known : List ByteArray} (hd : 1 ≤ d) (ht : t.fit) (hk : ∀ s ∈ known, s.size < 2 ^ 60) : (Nd.typ d t known).fit :=
  typ_ind (P := fun _ x => x.fit) known (fun _ _ _ _ _ => ⟨fitS_nil, (show 0 < 2 ^ 40 by decide), trivial⟩) (fun _ _ _ _ _ => ⟨fitS_nil, (show 0 < 2 ^ 40 by decide), trivial⟩)
    (fun _ _ _ _ _ _ h => ⟨fitS_nil, (show 1 < 2 ^ 40 by decide), h, trivial⟩)
    (fun _ _ _ _ _ _ _ _ _ _ h2 h => ⟨fitS_names h2, by simp; omega, fits_of fun u hu => by
      obtain ⟨i, hi, rfl⟩ := List.mem_map.1 hu
      exact h i (by simpa using hi)⟩)
    (fun _ _ _ _ _ _ _ h => ⟨fitS_names h, (show 0 < 2 ^ 40 by decide), trivial⟩)
    (fun _ i h _ => ⟨⟨by simp, fun s hs => by rw [List.mem_singleton.1 hs]; exact hk _ (List.getElem_mem h)⟩, (show 0 < 2 ^ 40 by decide), trivial⟩) d t hd ht

theorem smem_of {x : ByteArray} {l : List ByteArray} (h : x ∈ l) : smem x l = true := List.any_eq_true.2 ⟨x, h, seqB_iff.2 rfl⟩
theorem check_zero {k m : Int} {n : List ByteArray} {o : List KT} {D : Int} {known : List ByteArray} (h1 : formE k m n o.length D = 0) (h2 : nameE k n known = 0) (h3 : KT.checks o (D - 1) known = 0) : (KT.mk k m n o).check D known = 0 := by
  simp [KT.check, h1, h2, h3]
theorem formE_zero {k m : Int} {n : List ByteArray} {o : Nat} {D : Int} (h1 : k < 10 ∧ 1 ≤ D) (h2 : ((k = 4 ∨ k = 5) → 1 ≤ m ∧ m ≤ 60) ∧ (¬ (k = 4 ∨ k = 5) → m = 0)) (h3 : o = manyOf k n) (h4 : (k ≤ 5 → n.length = 0) ∧ (k = 9 → n.length = 1)) : formE k m n o D = 0 := by
  unfold formE
  rw [if_neg (by omega), if_neg (by omega), if_neg (by omega)]
theorem nameE_zero {k : Int} {n known : List ByteArray} (h1 : 6 ≤ k ∧ k ≤ 8 → namesM n = 0) (h2 : k = 9 → smem (n.getD 0 (bs [])) known = true) : nameE k n known = 0 := by
  unfold nameE
  rw [if_neg (fun h => h.2.2 (h1 ⟨h.1, h.2.1⟩)), if_neg (fun h => by rw [h2 h.1] at h; cases h.2)]
/-- It may be one. -/
theorem typ_check {d : Nat} {t : Nd} {known : List ByteArray} (hd : 1 ≤ d) (ht : t.fit) : ∀ D : Int, d ≤ D → (Nd.typ d t known).check D known = 0 := by
  refine typ_ind (P := fun d x => ∀ D : Int, d ≤ D → x.check D known = 0) known ?_ ?_ ?_ ?_ ?_ ?_ d t hd ht
  · intro d k h1 h2 h3 D hD
    exact check_zero (formE_zero (by omega) (by omega) (by rw [manyOf, if_neg (by omega), if_neg (by omega)]; rfl) ⟨fun _ => rfl, by omega⟩) (nameE_zero (by omega) (by omega)) rfl
  · intro d m h1 h2 h3 D hD
    exact check_zero (formE_zero (by omega) (by omega) rfl ⟨fun _ => rfl, by omega⟩) (nameE_zero (by omega) (by omega)) rfl
  · intro d m o h1 h2 h3 h D hD
    exact check_zero (formE_zero (by omega) (by omega) rfl ⟨fun _ => rfl, by omega⟩) (nameE_zero (by omega) (by omega)) (KT.checks_zero.2 fun u hu => by rw [List.mem_singleton.1 hu]; exact h _ (by omega))
  · intro d k n many sub h1 h2 h3 h4 h5 h6 h D hD
    refine check_zero (formE_zero (by omega) (by omega) (by rw [manyOf, if_neg (by omega), if_pos h2]; simp) ⟨by omega, by omega⟩) (nameE_zero (fun _ => namesM_low h5 h6) (by omega)) (KT.checks_zero.2 fun u hu => ?_)
    obtain ⟨i, hi, rfl⟩ := List.mem_map.1 hu
    exact h i (by simpa using hi) (D - 1) (by omega)
  · intro d n many h1 h2 h3 h4 h5 D hD
    exact check_zero (formE_zero (by omega) (by omega) rfl ⟨by omega, by omega⟩) (nameE_zero (fun _ => namesM_low h4 h5) (by omega)) rfl
  · intro d i hi h1 D hD
    exact check_zero (formE_zero (by omega) (by omega) rfl ⟨by omega, fun _ => rfl⟩) (nameE_zero (by omega) (fun _ => smem_of (List.getElem_mem hi))) rfl
end Go.Pv
