/- Whole types of the tables that small numbers stand for; looking up. No condition. -/
import Derived.Test.YtmcdhendjlijhaaD6
namespace Go.Pv

theorem KT.fit_eq (t : KT) : t.fit ↔ fitS t.names ∧ t.of.length < 2 ^ 40 ∧ ∀ o ∈ t.of, o.fit := by
  obtain ⟨k, m, n, o⟩ := t
  simp only [KT.fit, ktp]
  exact ⟨fun h => ⟨h.1, h.2.1, KT.fits_mem h.2.2⟩, fun h => ⟨h.1, h.2.1, fits_of h.2.2⟩⟩
theorem flat_fit : ∀ {d : Nat} {types : List Al} {x : KT}, x.fit → (∀ a ∈ types, a.ty.fit) → (flat d types x).fit
  | 0, _, _, h, _ => h
  | d + 1, types, x, h, ht => by
    unfold flat
    split
    · split
      · rename_i a ha
        exact flat_fit (ht a (List.mem_of_getElem? ha)) fun b hb => ht b (List.mem_of_mem_take hb)
      · exact h
    · rw [KT.fit_eq] at h ⊢
      simp only [ktp]
      refine ⟨h.1, by rw [List.length_map]; exact h.2.1, fun o ho => ?_⟩
      obtain ⟨u, hu, rfl⟩ := List.mem_map.1 ho
      exact flat_fit (h.2.2 u hu) ht
theorem seqB_refl (x : ByteArray) : seqB x x = true := seqB_iff.2 rfl
theorem eqAll_refl {α : Type} {e : α → α → Bool} {l : List α} (h : ∀ x ∈ l, e x x = true) : eqAll e l l = true := eqAll_all rfl fun _ h1 _ => h _ (List.getElem_mem h1)
theorem same_refl (t : KT) : t.same t = true := by
  induction t using KT.ind with
  | h k m n o ih =>
  simp only [KT.same, KT.sames_all, beq_self_eq_true, Bool.true_and, Bool.and_eq_true]
  exact ⟨eqAll_refl fun x _ => seqB_refl x, eqAll_refl ih⟩

/-- What a whole type is, and what is wrong with it, if anything. -/
theorem whole_few {types : List Al} {x : KT} (hd : dokc 20 types x) (hc : cnt 20 types x ≤ 200) : wholeM 20 types x 200 = ((flat 20 types x, 0), 200 - (cnt 20 types x : Int)) := (wholeM_cnt hd 200 (by decide)).1 (by omega)
theorem flat_cnt {d : Nat} {types : List Al} {x : KT} (hd : dokc d types x) : cnt d types (flat d types x) = cnt d types x := by
  have h1 := flat_plain hd
  have h2 := flat_plain (dokc_flat (types' := types) hd)
  rw [flat_same h1.1] at h2
  rw [← h2.2, h1.2]

theorem tname_inj : ∀ i j : Fin 4, seqB (tname i) (tname j) = true → i = j := by decide +kernel
section
variable {s : Sm} (hf : s.fit)
theorem refAt_at {m i : Nat} (hi : i < m) (hm : m ≤ 4) : refAt (s.types m) [tname i] = i := by
  unfold refAt
  have hi' : i < (s.types m).length := by rw [Sm.types_len]; exact hi
  rw [List.findIdx_eq hi']
  refine ⟨?_, fun j hj => ?_⟩
  · rw [Sm.types_get]
    simp only [List.length_singleton, decide_true, Bool.true_and, List.getD_cons_zero]
    exact seqB_refl _
  · rw [Sm.types_get]
    simp only [List.length_singleton, decide_true, Bool.true_and, List.getD_cons_zero]
    cases h : seqB (s.al j).name (tname i) with
    | false => rfl
    | true =>
      have := tname_inj ⟨j, by omega⟩ ⟨i, by omega⟩ h
      have : j = i := congrArg Fin.val this
      omega
theorem typ_flat (m : Nat) (hm : m ≤ 4) (IH : ∀ i, i < m → ∀ D D', 3 + 3 * i ≤ D → 3 + 3 * i ≤ D' → flat D (s.types i) (s.al i).ty = flat D' (s.types i) (s.al i).ty) {d : Nat} {x : Nd} (hd : 1 ≤ d) (hx : x.fit) :
    ∀ D D' m', d + 3 * m ≤ D → d + 3 * m ≤ D' → m ≤ m' → m' ≤ 4 → flat D (s.types m) (Nd.typ d x (known m)) = flat D' (s.types m') (Nd.typ d x (known m)) := by
  refine typ_ind (P := fun d y => ∀ D D' m', d + 3 * m ≤ D → d + 3 * m ≤ D' → m ≤ m' → m' ≤ 4 → flat D (s.types m) y = flat D' (s.types m') y) (known m) ?_ ?_ ?_ ?_ ?_ ?_ d x hd hx
  · intro d k h1 h2 h3 D D' m' hD hD' _ _
    obtain ⟨D, rfl⟩ : ∃ E, D = E + 1 := ⟨D - 1, by omega⟩
    obtain ⟨D', rfl⟩ : ∃ E, D' = E + 1 := ⟨D' - 1, by omega⟩
    simp only [flat, ktp, if_neg (show k ≠ 9 by omega), List.map_nil]
  · intro d k h1 h2 h3 D D' m' hD hD' _ _
    obtain ⟨D, rfl⟩ : ∃ E, D = E + 1 := ⟨D - 1, by omega⟩
    obtain ⟨D', rfl⟩ : ∃ E, D' = E + 1 := ⟨D' - 1, by omega⟩
    simp only [flat, ktp, List.map_nil]
    rfl
  · intro d k o h1 h2 h3 h D D' m' hD hD' hm1 hm2
    obtain ⟨D, rfl⟩ : ∃ E, D = E + 1 := ⟨D - 1, by omega⟩
    obtain ⟨D', rfl⟩ : ∃ E, D' = E + 1 := ⟨D' - 1, by omega⟩
    simp only [flat, ktp, List.map_cons, List.map_nil]
    rw [h D D' m' (by omega) (by omega) hm1 hm2]
    rfl
  · intro d k n many sub h1 h2 h3 h4 h5 h6 h D D' m' hD hD' hm1 hm2
    obtain ⟨D, rfl⟩ : ∃ E, D = E + 1 := ⟨D - 1, by omega⟩
    obtain ⟨D', rfl⟩ : ∃ E, D' = E + 1 := ⟨D' - 1, by omega⟩
    simp only [flat, ktp, if_neg (show k ≠ 9 by omega), List.map_map]
    congr 1
    refine List.map_congr_left fun i hi => ?_
    exact h i (by simpa using hi) D D' m' (by omega) (by omega) hm1 hm2
  · intro d n many h1 h2 h3 h4 h5 D D' m' hD hD' _ _
    obtain ⟨D, rfl⟩ : ∃ E, D = E + 1 := ⟨D - 1, by omega⟩
    obtain ⟨D', rfl⟩ : ∃ E, D' = E + 1 := ⟨D' - 1, by omega⟩
    simp only [flat, ktp, List.map_nil]
    rfl
  · intro d i hi h1 D D' m' hD hD' hm1 hm2
    obtain ⟨D, rfl⟩ : ∃ E, D = E + 1 := ⟨D - 1, by omega⟩
    obtain ⟨D', rfl⟩ : ∃ E, D' = E + 1 := ⟨D' - 1, by omega⟩
    have him : i < m := by rwa [known_len] at hi
    rw [known_get]
    simp only [flat, ktp, if_true]
    have g1 : (s.types m)[i]? = some (s.al i) := by
      rw [List.getElem?_eq_getElem (by rw [Sm.types_len]; exact him), Sm.types_get]
    have g2 : (s.types m')[i]? = some (s.al i) := by
      rw [List.getElem?_eq_getElem (by rw [Sm.types_len]; omega), Sm.types_get]
    rw [refAt_at him hm, refAt_at (m := m') (by omega) hm2, g1, g2]
    simp only
    rw [Sm.types_take s (by omega), Sm.types_take s (by omega)]
    exact IH i him D D' (by omega) (by omega)
include hf in
theorem al_flat : ∀ i, i ≤ 4 → ∀ D D' m', 3 + 3 * i ≤ D → 3 + 3 * i ≤ D' → i ≤ m' → m' ≤ 4 → flat D (s.types i) (s.al i).ty = flat D' (s.types m') (s.al i).ty := by
  intro i
  induction i using Nat.strongRecOn with
  | ind i ih =>
    intro hi
    exact typ_flat i hi (fun j hj D D' h1 h2 => ih j hj (by omega) D D' j h1 h2 (Nat.le_refl _) (by omega)) (by decide) (alias_fit hf i)
include hf in
theorem typ_dokc_up (m m' : Nat) (hmm : m ≤ m') (_hm : m' ≤ 4) {x : Nd} (hx : x.fit) {d : Nat} (hd : 1 ≤ d) : ∀ D, d + 3 * m' ≤ D → dokc D (s.types m') (Nd.typ d x (known m)) := by
  refine typ_ind (P := fun d y => ∀ D, d + 3 * m' ≤ D → dokc D (s.types m') y) (known m) ?_ ?_ ?_ ?_ ?_ ?_ d x hd hx
  · intro d k h1 h2 h3 D hD
    obtain ⟨D, rfl⟩ : ∃ D', D = D' + 1 := ⟨D - 1, by omega⟩
    exact ⟨fun e => by simp only [ktp] at e; omega, fun o ho => by cases ho⟩
  · intro d k h1 h2 h3 D hD
    obtain ⟨D, rfl⟩ : ∃ D', D = D' + 1 := ⟨D - 1, by omega⟩
    exact ⟨fun e => by simp only [ktp] at e; omega, fun o ho => by cases ho⟩
  · intro d k o h1 h2 h3 h D hD
    obtain ⟨D, rfl⟩ : ∃ D', D = D' + 1 := ⟨D - 1, by omega⟩
    exact ⟨fun e => by simp only [ktp] at e; omega, fun u hu => by simp only [ktp] at hu; rw [List.mem_singleton.1 hu]; exact h D (by omega)⟩
  · intro d k n many sub h1 h2 h3 h4 h5 h6 h D hD
    obtain ⟨D, rfl⟩ : ∃ D', D = D' + 1 := ⟨D - 1, by omega⟩
    refine ⟨fun e => by simp only [ktp] at e; omega, fun u hu => ?_⟩
    simp only [ktp] at hu
    obtain ⟨i, hi, rfl⟩ := List.mem_map.1 hu
    exact h i (by simpa using hi) D (by omega)
  · intro d n many h1 h2 h3 h4 h5 D hD
    obtain ⟨D, rfl⟩ : ∃ D', D = D' + 1 := ⟨D - 1, by omega⟩
    exact ⟨fun e => by simp only [ktp] at e; omega, fun o ho => by cases ho⟩
  · intro d i hi h1 D hD
    obtain ⟨D, rfl⟩ : ∃ D', D = D' + 1 := ⟨D - 1, by omega⟩
    have him : i < m := by rwa [known_len] at hi
    refine ⟨fun _ => ⟨rfl, ?_, fun j hj => ?_⟩, fun o ho => by cases ho⟩
    · simp only [ktp]
      rw [known_get]
      exact ref_hit (by omega)
    · rw [Sm.types_len] at hj
      rw [Sm.types_get, Sm.types_take s (by omega)]
      exact al_dokc hf j D (by omega)
/-- What a reference stands for is whole as the reference is. -/
theorem ref_name {x : KT} {m : Nat} (h9 : x.kind = 9) {D : Nat} (hd : dokc D (s.types m) x) (_hm : m ≤ 4) : ∃ i, i < m ∧ x.names = [tname i] := by
  cases D with
  | zero => exact hd.elim
  | succ D =>
  obtain ⟨h1, h2, _⟩ := hd.1 h9
  obtain ⟨n, hn⟩ := List.length_eq_one_iff.1 h1
  rw [hn] at h2 ⊢
  unfold refAt at h2
  rw [List.findIdx_lt_length] at h2
  obtain ⟨a, ha, hp⟩ := h2
  obtain ⟨i, hi, rfl⟩ := List.mem_map.1 ha
  simp only [List.length_singleton, decide_true, Bool.true_and, List.getD_cons_zero] at hp
  have hp' : (s.al i).name = n := seqB_iff.1 hp
  exact ⟨i, by simpa using hi, by rw [← hp']; rfl⟩
include hf in
theorem ref_whole {x : KT} (h9 : x.kind = 9) (hd : dokc 20 (s.types s.as) x) (hc : cnt 20 (s.types s.as) x ≤ 200) {j : Nat} (hj : j < s.as) (hn : seqB (tname j) (x.names.getD 0 (bs [])) = true) :
    (wholeM 20 (s.types s.as) (s.al j).ty 200).1.1 = flat 20 (s.types s.as) x := by
  have has := as_le s
  obtain ⟨i, hi, hx⟩ := ref_name h9 hd has
  rw [hx] at hn
  have hji : j = i := congrArg Fin.val (tname_inj ⟨j, by omega⟩ ⟨i, by omega⟩ hn)
  subst hji
  have g1 : (s.types s.as)[j]? = some (s.al j) := by
    rw [List.getElem?_eq_getElem (by rw [Sm.types_len]; exact hj), Sm.types_get]
  have hfx : flat 20 (s.types s.as) x = flat 20 (s.types s.as) (s.al j).ty := by
    rw [flat, if_pos h9, hx, refAt_at hj has, g1]
    simp only
    rw [Sm.types_take s (by omega)]
    exact al_flat hf j (by omega) 19 20 s.as (by omega) (by omega) (by omega) has
  have hda : dokc 20 (s.types s.as) (s.al j).ty := by
    exact typ_dokc_up hf j s.as (by omega) has (alias_fit hf j) (d := 3) (by decide) 20 (by omega)
  have hcc : cnt 20 (s.types s.as) (s.al j).ty = cnt 20 (s.types s.as) x := by
    rw [← (flat_plain hda).2, ← hfx, (flat_plain hd).2]
  rw [whole_few hda (by omega), hfx]
theorem find_own {k : Nat} (hk : k < s.ps) : Find s.tb.procs (s.pc k).number = some (s.pc k) := by
  unfold Find
  have hl : s.tb.procs = (List.range s.ps).map s.pc := rfl
  rw [hl, List.find?_map, Function.comp_def]
  have : (List.range s.ps).find? (fun x => (s.pc x).number == (s.pc k).number) = some k := by
    rw [List.find?_eq_some_iff_getElem]
    refine ⟨by simp, k, by simpa using hk, by simp, fun j hj => ?_⟩
    simp only [List.getElem_range, Sm.pc, Bool.not_eq_eq_eq_not, Bool.not_true, beq_eq_false_iff_ne, ne_eq]
    omega
  rw [this]; rfl
theorem find_any (l : List Pc) (n : Int) : (Find l n).isSome = l.any fun p => p.number == n := by
  unfold Find
  rw [List.isSome_find?]
def nowhere : ByteArray := bs [110, 111, 119, 104, 101, 114, 101]
theorem nowhere_t : ∀ i : Fin 4, seqB (tname i) nowhere = false := by decide +kernel
theorem whole_nowhere : wholeM 20 s.tb.types (.mk 9 0 [nowhere] []) 200 = ((KT.zero, 10), 200) := by
  have has := as_le s
  refine wholeM_none ?_
  unfold refAt
  rw [List.findIdx_lt_length]
  rintro ⟨a, ha, hp⟩
  obtain ⟨i, hi, rfl⟩ := List.mem_map.1 ha
  have hi' : i < s.as := by simpa using hi
  simp only [List.length_singleton, decide_true, Bool.true_and, List.getD_cons_zero] at hp
  have := nowhere_t ⟨i, by omega⟩
  rw [show seqB (tname i) nowhere = true from hp] at this
  cases this
theorem alike_version (t : TB) {v : Int} (h : v ≠ t.version) : t.alike { t with version := v } = false := by
  have : (t.version == v) = false := by simpa using fun e => h e.symm
  simp [TB.alike, this]
end
end Go.Pv
/- Tables with one thing turned: what their check answers. No condition. -/
namespace Go.Pv

theorem smem_append (x : ByteArray) (l k : List ByteArray) : smem x (l ++ k) = (smem x l || smem x k) := by simp [smem, List.any_append]
theorem seqB_comm (x y : ByteArray) : seqB x y = seqB y x := by
  rw [Bool.eq_iff_iff, seqB_iff, seqB_iff]; exact eq_comm
theorem smem_one (x y : ByteArray) : smem x [y] = seqB y x := by simp [smem, seqB_comm]
/-- More names, none of them the same. -/
theorem freshE_more {n x : ByteArray} {all all' : List ByteArray} (h : freshE n all = 0) (hx : seqB x n = false) (hs : ∀ y, smem y all' = (smem y all || smem y [x])) : freshE n all' = 0 := by
  unfold freshE at h ⊢
  split at h
  · cases h
  · rename_i h1
    split at h
    · cases h
    · rename_i h2
      rw [if_neg h1, if_neg]
      rw [hs, smem_one, hx]
      simpa using h2
theorem faultsE_more {x : ByteArray} : ∀ {fs : List Fl} {all all' : List ByteArray} {nums : List Int}, faultsE fs all nums = 0 → (∀ f ∈ fs, seqB x f.name = false) → (∀ y, smem y all' = (smem y all || smem y [x])) → faultsE fs all' nums = 0
  | [], _, _, _, _, _, _ => rfl
  | f :: fs, all, all', nums, h, hx, hs => by
    unfold faultsE at h ⊢
    split at h
    · rename_i h1; exact absurd h h1
    · rename_i h1
      split at h
      · cases h
      · rename_i h2
        split at h
        · cases h
        · rename_i h3
          have := freshE_more (by simpa using h1) (hx f List.mem_cons_self) hs
          rw [if_neg (by simp [this]), if_neg h2, if_neg h3]
          refine faultsE_more h (fun g hg => hx g (List.mem_cons_of_mem _ hg)) fun y => ?_
          rw [smem_append, smem_append, hs]
          cases smem y all <;> cases smem y [x] <;> simp
theorem procsE_more {x : ByteArray} {types types' : List Al} {kn kn' : List ByteArray} : ∀ {ps : List Pc} {all all' : List ByteArray} {nums : List Int}, procsE types kn ps all nums = 0 → (∀ p ∈ ps, seqB x p.name = false) → (∀ y, smem y all' = (smem y all || smem y [x])) →
    (∀ p ∈ ps, partsE types kn [p.takes, p.answers] = 0 → partsE types' kn' [p.takes, p.answers] = 0) → procsE types' kn' ps all' nums = 0
  | [], _, _, _, _, _, _, _ => rfl
  | p :: ps, all, all', nums, h, hx, hs, hp => by
    unfold procsE at h ⊢
    split at h
    · rename_i h1; exact absurd h h1
    · rename_i h1
      split at h
      · cases h
      · rename_i h2
        split at h
        · cases h
        · rename_i h3
          split at h
          · rename_i h4; exact absurd h h4
          · rename_i h4
            have := freshE_more (by simpa using h1) (hx p List.mem_cons_self) hs
            rw [if_neg (by simp [this]), if_neg h2, if_neg h3, if_neg (by simp [hp p List.mem_cons_self (by simpa using h4)])]
            refine procsE_more h (fun g hg => hx g (List.mem_cons_of_mem _ hg)) (fun y => ?_) fun g hg => hp g (List.mem_cons_of_mem _ hg)
            rw [smem_append, smem_append, hs]
            cases smem y all <;> cases smem y [x] <;> simp
theorem faultsE_snoc : ∀ {fs : List Fl} {f : Fl} {all : List ByteArray} {nums : List Int}, faultsE fs all nums = 0 → faultsE (fs ++ [f]) all nums = faultsE [f] (all ++ fs.map Fl.name) (nums ++ fs.map Fl.number)
  | [], f, all, nums, _ => by simp
  | g :: fs, f, all, nums, h => by
    unfold faultsE at h
    split at h
    · rename_i h1; exact absurd h h1
    · rename_i h1
      split at h
      · cases h
      · rename_i h2
        split at h
        · cases h
        · rename_i h3
          rw [List.cons_append, faultsE, if_neg h1, if_neg h2, if_neg h3, faultsE_snoc h]
          simp
theorem procsE_snoc {types : List Al} {kn : List ByteArray} {ps' : List Pc} : ∀ {ps : List Pc} {all : List ByteArray} {nums : List Int}, procsE types kn ps all nums = 0 → procsE types kn (ps ++ ps') all nums = procsE types kn ps' (all ++ ps.map Pc.name) (nums ++ ps.map Pc.number)
  | [], all, nums, _ => by simp
  | p :: ps, all, nums, h => by
    unfold procsE at h
    split at h
    · rename_i h1; exact absurd h h1
    · rename_i h1
      split at h
      · cases h
      · rename_i h2
        split at h
        · cases h
        · rename_i h3
          split at h
          · rename_i h4; exact absurd h h4
          · rename_i h4
            rw [List.cons_append, procsE, if_neg h1, if_neg h2, if_neg h3, if_neg h4, procsE_snoc h]
            simp

/-- What is right in a table that is right. -/
structure TB.ok (t : TB) : Prop where
  name : isName t.name = true
  nums : inNum t.number = true ∧ inNum t.version = true
  lens : t.types.length ≤ 4 ∧ t.faults.length ≤ 4 ∧ t.procs.length ≤ 4
  types : typesE t.types [] = 0
  faults : faultsE t.faults t.names [] = 0
  procs : procsE t.types t.names t.procs (t.names ++ t.faults.map Fl.name) [] = 0
theorem TB.check_of {t : TB} (h1 : isName t.name = true) (h2 : inNum t.number = true ∧ inNum t.version = true) (h3 : t.types.length ≤ 16 ∧ t.faults.length ≤ 16 ∧ t.procs.length ≤ 16) :
    t.check = if typesE t.types [] ≠ 0 then typesE t.types [] else if faultsE t.faults t.names [] ≠ 0 then faultsE t.faults t.names [] else procsE t.types t.names t.procs (t.names ++ t.faults.map Fl.name) [] := by
  rw [TB.check, if_neg (by simp [h1]), if_neg (by simp [h2.1, h2.2]), if_neg (by omega)]

def lastN : ByteArray := bs [108, 97, 115, 116]
def recordN : ByteArray := bs [114, 101, 99, 111, 114, 100]
def xN : ByteArray := bs [120]
def yN : ByteArray := bs [121]
def b3 (a b c : Bool) : List ByteArray := (if a then [lastN] else []) ++ (if b then [face] else []) ++ (if c then [xN] else [])
theorem last_t : ∀ a : Fin 5, freshE lastN (known a) = 0 := by decide +kernel
theorem last_e : ∀ a : Fin 5, ∀ f : Fin 4, freshE lastN (known a ++ enames f) = 0 ∧ freshE face (known a ++ enames f) = 0 := by decide +kernel
theorem last_p : ∀ a : Fin 5, ∀ f : Fin 4, ∀ i : Fin 5, freshE lastN (known a ++ enames f ++ pnames i) = 0 ∧ freshE xN (known a ++ enames f ++ pnames i) = 0 ∧ freshE yN (known a ++ enames f ++ pnames i ++ [xN]) = 0 := by decide +kernel
theorem last_ne : ∀ i : Fin 4, seqB lastN (ename i) = false ∧ seqB lastN (pname i) = false ∧ seqB face (pname i) = false := by decide +kernel

section
variable {s : Sm} (hf : s.fit)
/-- One more name for a type. -/
theorem refAt_more {m i : Nat} {a : Al} (hi : i < m) (hm : m ≤ 4) : refAt (s.types m ++ [a]) [tname i] = i := by
  have := refAt_at (s := s) hi hm
  unfold refAt at this ⊢
  rw [List.findIdx_append, if_pos (by rw [this, Sm.types_len]; exact hi), this]
theorem typ_more (m : Nat) (hm : m ≤ 4) (a : Al) {d : Nat} {x : Nd} (hd : 1 ≤ d) (hx : x.fit) : ∀ D left, wholeM D (s.types m ++ [a]) (Nd.typ d x (known m)) left = wholeM D (s.types m) (Nd.typ d x (known m)) left := by
  have fold : ∀ (D : Nat) (l : List KT), (∀ y ∈ l, ∀ left, wholeM D (s.types m ++ [a]) y left = wholeM D (s.types m) y left) → ∀ left, foldW (wholeM D (s.types m ++ [a])) l left = foldW (wholeM D (s.types m)) l left := by
    intro D l
    induction l with
    | nil => intro _ _; rfl
    | cons y l ih =>
      intro h left
      simp only [foldW, h y List.mem_cons_self, ih (fun z hz => h z (List.mem_cons_of_mem _ hz))]
  have key : ∀ (k mo : Int) (n : List ByteArray) (o : List KT), k ≠ 9 → (∀ y ∈ o, ∀ D left, wholeM D (s.types m ++ [a]) y left = wholeM D (s.types m) y left) → ∀ D left, wholeM D (s.types m ++ [a]) (.mk k mo n o) left = wholeM D (s.types m) (.mk k mo n o) left := by
    intro k mo n o hk ho D left
    cases D with
    | zero => rfl
    | succ D =>
      simp only [wholeM, ktp, if_neg hk]
      rw [fold D o (fun y hy => ho y hy D)]
  refine typ_ind (P := fun _ y => ∀ D left, wholeM D (s.types m ++ [a]) y left = wholeM D (s.types m) y left) (known m) ?_ ?_ ?_ ?_ ?_ ?_ d x hd hx
  · intro d k h1 h2 h3
    exact key _ _ _ _ (by omega) fun y hy => by cases hy
  · intro d k h1 h2 h3
    exact key _ _ _ _ (by omega) fun y hy => by cases hy
  · intro d k o h1 h2 h3 h
    exact key _ _ _ _ (by omega) fun y hy => by rw [List.mem_singleton.1 hy]; exact h
  · intro d k n many sub h1 h2 h3 h4 h5 h6 h
    exact key _ _ _ _ (by omega) fun y hy => by
      obtain ⟨i, hi, rfl⟩ := List.mem_map.1 hy
      exact h i (by simpa using hi)
  · intro d n many h1 h2 h3 h4 h5
    exact key _ _ _ _ (by omega) fun y hy => by cases hy
  · intro d i hi h1 D left
    have him : i < m := by rwa [known_len] at hi
    rw [known_get]
    cases D with
    | zero => rfl
    | succ D =>
      simp only [wholeM, ktp, if_true]
      rw [refAt_more him hm, refAt_at him hm, List.getElem?_append_left (by rw [Sm.types_len]; exact him), List.take_append_of_le_length (by rw [Sm.types_len]; omega)]
theorem smem_more {y : ByteArray} {l : List ByteArray} (k : List ByteArray) (h : smem y l = true) : smem y (l ++ k) = true := by rw [smem_append, h]; rfl
/-- More names that are known. -/
theorem check_more : ∀ (x : KT) (D : Int) (kn k : List ByteArray), x.check D kn = 0 → x.check D (kn ++ k) = 0 := by
  intro x
  induction x using KT.ind with
  | h kd m n o ih =>
  intro D kn k h
  unfold KT.check at h ⊢
  split at h
  · rename_i h1; exact absurd h h1
  · rename_i h1
    split at h
    · rename_i h2; exact absurd h h2
    · rename_i h2
      have h2' : nameE kd n kn = 0 := by simpa using h2
      have : nameE kd n (kn ++ k) = 0 := by
        unfold nameE at h2' ⊢
        split at h2'
        · rename_i h3; exact absurd h2' h3.2.2
        · rename_i h3
          rw [if_neg h3]
          split at h2'
          · cases h2'
          · rename_i h4
            rw [if_neg]
            rintro ⟨h5, h6⟩
            refine h4 ⟨h5, ?_⟩
            cases h7 : smem (n.getD 0 (bs [])) kn with
            | false => rfl
            | true => rw [smem_more k h7] at h6; cases h6
      rw [if_neg h1, if_neg (by simp [this])]
      rw [KT.checks_zero] at h ⊢
      exact fun t ht => ih t ht _ _ _ (h t ht)
theorem parts_more {types types' : List Al} {kn k : List ByteArray} {p : Pc} (hw : ∀ left, wholeM 20 types' p.takes left = wholeM 20 types p.takes left) (hw' : ∀ left, wholeM 20 types' p.answers left = wholeM 20 types p.answers left)
    (h : partsE types kn [p.takes, p.answers] = 0) : partsE types' (kn ++ k) [p.takes, p.answers] = 0 := by
  simp only [partsE] at h ⊢
  split at h
  · rename_i h1; exact absurd h h1
  · rename_i h1
    split at h
    · rename_i h2; exact absurd h h2
    · rename_i h2
      split at h
      · rename_i h3; exact absurd h h3
      · rename_i h3
        split at h
        · rename_i h4; exact absurd h h4
        · rename_i h4
          rw [hw, hw', if_neg (by simp [check_more _ _ _ k (by simpa using h1)]), if_neg h2, if_neg (by simp [check_more _ _ _ k (by simpa using h3)]), if_neg h4]
end
end Go.Pv
/- Tables with one thing turned: what their check answers, each. No condition. -/
namespace Go.Pv

theorem ok_of {t : TB} (h : t.check = 0) (hl : t.types.length ≤ 4 ∧ t.faults.length ≤ 4 ∧ t.procs.length ≤ 4) : t.ok := by
  unfold TB.check at h
  split at h
  · cases h
  · rename_i h1
    split at h
    · cases h
    · rename_i h2
      rw [if_neg (by omega)] at h
      split at h
      · rename_i h3; exact absurd h h3
      · rename_i h3
        split at h
        · rename_i h4; exact absurd h h4
        · rename_i h4
          exact ⟨by simpa using h1, by simpa using h2, hl, by simpa using h3, by simpa using h4, h⟩
/-- A number out of range? -/
def outE (n lo hi : Int) : Int := if n < lo ∨ n > hi then 2 else 0
theorem outE_num (n : Int) : outE n 0 65535 = if inNum n = false then 2 else 0 := by
  unfold outE inNum
  by_cases h : n < 0 ∨ n > 65535
  · rw [if_pos h, if_pos]
    simp only [Bool.and_eq_false_iff, decide_eq_false_iff_not]
    omega
  · rw [if_neg h, if_neg]
    simp only [Bool.and_eq_false_iff, decide_eq_false_iff_not]
    omega
section
variable {t : TB} (ho : t.ok)
include ho
omit ho in
theorem wrong_name : (TB.mk (recordN) t.number t.version t.types t.faults t.procs).check = 8 := by
  have : isName recordN = false := by decide +kernel
  rw [TB.check, if_pos this]
theorem wrong_number (n : Int) : (TB.mk t.name (n) t.version t.types t.faults t.procs).check = outE n 0 65535 := by
  have h3 := ho.lens
  have h2 : inNum t.version = true := ho.nums.2
  have h5 : faultsE t.faults (TB.names (TB.mk t.name (n) t.version t.types t.faults t.procs)) [] = 0 := ho.faults
  have h6 : procsE t.types (TB.names (TB.mk t.name (n) t.version t.types t.faults t.procs)) t.procs (TB.names (TB.mk t.name (n) t.version t.types t.faults t.procs) ++ t.faults.map Fl.name) [] = 0 := ho.procs
  rw [outE_num]
  by_cases h : inNum n = true
  · skip
    refine (TB.check_of ?_ ?_ ?_).trans ?_
    · exact ho.name
    · exact ⟨h, h2⟩
    · simp only; omega
    simp [ho.types, h5, h6, h]
  · have h' : inNum n = false := by simpa using h
    rw [TB.check, if_neg (by simp [ho.name]), if_pos (by simp [h']), if_pos h']
theorem wrong_version (n : Int) : (TB.mk t.name t.number (n) t.types t.faults t.procs).check = outE n 0 65535 := by
  have h3 := ho.lens
  have h2 : inNum t.number = true := ho.nums.1
  have h5 : faultsE t.faults (TB.names (TB.mk t.name t.number (n) t.types t.faults t.procs)) [] = 0 := ho.faults
  have h6 : procsE t.types (TB.names (TB.mk t.name t.number (n) t.types t.faults t.procs)) t.procs (TB.names (TB.mk t.name t.number (n) t.types t.faults t.procs) ++ t.faults.map Fl.name) [] = 0 := ho.procs
  rw [outE_num]
  by_cases h : inNum n = true
  · skip
    refine (TB.check_of ?_ ?_ ?_).trans ?_
    · exact ho.name
    · exact ⟨h2, h⟩
    · simp only; omega
    simp [ho.types, h5, h6, h]
  · have h' : inNum n = false := by simpa using h
    rw [TB.check, if_neg (by simp [ho.name]), if_pos (by simp [h']), if_pos h']
theorem wrong_many (a : Al) : (TB.mk t.name t.number t.version (List.replicate 17 a) t.faults t.procs).check = 7 := by
  rw [TB.check, if_neg (by simp [ho.name]), if_neg (by simp [ho.nums.1, ho.nums.2]), if_pos (by simp)]
end
theorem names_snoc (t : TB) (x : KT) : TB.names (TB.mk t.name t.number t.version (t.types ++ [⟨lastN, x⟩]) t.faults t.procs) = t.names ++ [lastN] := by simp [TB.names]

section
variable {s : Sm} (hf : s.fit) (hc : s.tb.check = 0)
include hf hc
theorem tb_ok : s.tb.ok := ok_of hc ⟨by have := as_le s; simp [Sm.tb]; omega, by have := fs_lt hf; simp [Sm.tb]; omega, by have := ps_le s; simp [Sm.tb]; omega⟩
omit hf hc in
theorem tb_names : s.tb.names = known s.as := types_names s.as
omit hf hc in
theorem tb_enames : s.tb.faults.map Fl.name = enames s.fs := by simp [Sm.tb, enames, flOf, Function.comp_def]
omit hf hc in
theorem tb_pnames : s.tb.procs.map Pc.name = pnames s.ps := by simp [Sm.tb, pnames, Sm.pc, Function.comp_def]
omit hc in
theorem fl_ne {f : Fl} (hm : f ∈ s.tb.faults) : seqB lastN f.name = false := by
  have := fs_lt hf
  obtain ⟨i, hi, rfl⟩ := List.mem_map.1 hm
  have hi' : i < s.fs := by simpa using hi
  exact (last_ne ⟨i, by omega⟩).1
omit hf hc in
theorem pc_ne {p : Pc} (hm : p ∈ s.tb.procs) : seqB lastN p.name = false ∧ seqB face p.name = false := by
  have := ps_le s
  obtain ⟨i, hi, rfl⟩ := List.mem_map.1 hm
  have hi' : i < s.ps := by simpa using hi
  exact (last_ne ⟨i, by omega⟩).2
omit hf hc in
theorem smem_mid (y x : ByteArray) (l k : List ByteArray) : smem y (l ++ [x] ++ k) = (smem y (l ++ k) || smem y [x]) := by
  rw [smem_append, smem_append, smem_append]
  cases smem y l <;> cases smem y k <;> cases smem y [x] <;> rfl
theorem wrong_alias (x : KT) : (TB.mk s.tb.name s.tb.number s.tb.version (s.tb.types ++ [⟨lastN, x⟩]) s.tb.faults s.tb.procs).check = x.check 5 (known s.as) := by
  have ho := tb_ok hf hc
  have h3 := ho.lens
  have has := as_le s
  have hfs := fs_lt hf
  refine (TB.check_of ?_ ?_ ?_).trans ?_
  · exact ho.name
  · exact ho.nums
  · simp only [List.length_append, List.length_singleton]; omega
  rw [names_snoc]
  simp only
  rw [typesE_snoc ho.types]
  have hn := tb_names (s := s)
  have hn' : s.tb.types.map Al.name = known s.as := hn
  rw [List.nil_append, hn']
  have hl : freshE lastN (known s.as) = 0 := last_t ⟨s.as, by omega⟩
  have he : typesE [⟨lastN, x⟩] (known s.as) = x.check 5 (known s.as) := by
    simp only [typesE, hl]
    simp only [ne_eq, not_true_eq_false, if_false]
    split
    · rfl
    · rename_i h; simpa using Eq.symm (by simpa using h : x.check 5 (known s.as) = 0)
  rw [he]
  by_cases h : x.check 5 (known s.as) = 0
  · rw [if_neg (by simp [h]), hn, h]
    have q1 := ho.faults
    have q2 := ho.procs
    rw [hn] at q1 q2
    have f1 : faultsE s.tb.faults (known s.as ++ [lastN]) [] = 0 := faultsE_more q1 (fun f hm => fl_ne hf hm) fun y => by rw [smem_append]
    rw [if_neg (by simp [f1])]
    refine procsE_more q2 (fun p hm => (pc_ne hm).1) (fun y => smem_mid _ _ _ _) fun p hm hp => ?_
    obtain ⟨i, hi, rfl⟩ := List.mem_map.1 hm
    exact parts_more (fun left => typ_more s.as has _ (by decide) (proc_fit hf i).1 20 left) (fun left => typ_more s.as has _ (by decide) (proc_fit hf i).2.1 20 left) hp
  · rw [if_pos h]
theorem wrong_fault (x : ByteArray) (n : Int) (hx : freshE x (known s.as ++ enames s.fs) = 0) (hp : ∀ p ∈ s.tb.procs, seqB x p.name = false) :
    (TB.mk s.tb.name s.tb.number s.tb.version s.tb.types (s.tb.faults ++ [⟨x, n⟩]) s.tb.procs).check = if inNum n = false then 2 else if n ∈ s.tb.faults.map Fl.number then 9 else 0 := by
  have ho := tb_ok hf hc
  have h3 := ho.lens
  have hn := tb_names (s := s)
  have he := tb_enames (s := s)
  have q2 := ho.procs
  refine (TB.check_of ?_ ?_ ?_).trans ?_
  · exact ho.name
  · exact ho.nums
  · simp only [List.length_append, List.length_singleton]; omega
  have hn2 : TB.names (TB.mk s.tb.name s.tb.number s.tb.version s.tb.types (s.tb.faults ++ [⟨x, n⟩]) s.tb.procs) = known s.as := hn
  simp only [hn2]
  rw [if_neg (by simp [ho.types])]
  have q1 := ho.faults
  rw [hn] at q1 q2
  rw [faultsE_snoc q1, he]
  simp only [faultsE, hx, List.nil_append]
  simp only [ne_eq, not_true_eq_false, if_false]
  by_cases h1 : inNum n = false
  · rw [if_pos h1]; simp
  · rw [if_neg h1]
    by_cases h2 : n ∈ s.tb.faults.map Fl.number
    · simp [h2]
    · simp only [if_neg h2, not_true_eq_false, if_false]
      refine procsE_more q2 hp (fun y => ?_) fun p _ hp => hp
      rw [List.map_append, he, ← List.append_assoc, smem_append]
      rfl
theorem wrong_last (n : Int) : (TB.mk s.tb.name s.tb.number s.tb.version s.tb.types (s.tb.faults ++ [⟨lastN, n⟩]) s.tb.procs).check = if inNum n = false then 2 else if n ∈ s.tb.faults.map Fl.number then 9 else 0 := by
  have has := as_le s
  exact wrong_fault hf hc lastN n (last_e ⟨s.as, by omega⟩ ⟨s.fs, fs_lt hf⟩).1 fun p hm => (pc_ne hm).1
theorem wrong_face : (TB.mk s.tb.name s.tb.number s.tb.version s.tb.types (s.tb.faults ++ [⟨face, 999⟩]) s.tb.procs).check = 0 := by
  have has := as_le s
  have hfs := fs_lt hf
  rw [wrong_fault hf hc face 999 (last_e ⟨s.as, by omega⟩ ⟨s.fs, hfs⟩).2 fun p hm => (pc_ne hm).2]
  rw [if_neg (by decide), if_neg]
  simp only [Sm.tb, List.map_map, List.mem_map, List.mem_range, Function.comp_apply, flOf, not_exists, not_and]
  intro i hi; omega
omit hc in
theorem far_number : (999 : Int) ∉ s.tb.procs.map Pc.number := by
  have := ps_le s
  have := hf.number
  simp only [Sm.tb, List.map_map, List.mem_map, List.mem_range, Function.comp_apply, Sm.pc, not_exists, not_and]
  intro i hi; omega
omit hf hc in
theorem parts_zero (types : List Al) (kn : List ByteArray) : partsE types kn [KT.zero, KT.zero] = 0 := by
  have h1 : KT.zero.check 5 kn = 0 := by simp [KT.zero, KT.check, formE, manyOf, nameE, KT.checks]
  have h2 : (wholeM 20 types KT.zero 200).1.2 = 0 := by
    rw [KT.zero, show (20 : Nat) = 19 + 1 from rfl, wholeM_rec (by decide) (by decide) (outs := []) (e := 0) (l := 199) rfl]
    rfl
  simp [partsE, h1, h2]
theorem wrong_proc (co ti : Int) : (TB.mk s.tb.name s.tb.number s.tb.version s.tb.types s.tb.faults (s.tb.procs ++ [⟨lastN, 999, KT.zero, KT.zero, co, ti⟩])).check = if (decide (ti < 1) || decide (ti > 1000) || decide (co ≥ 3)) = true then 2 else 0 := by
  have ho := tb_ok hf hc
  have h3 := ho.lens
  have has := as_le s
  have hps := ps_le s
  have hn := tb_names (s := s)
  have he := tb_enames (s := s)
  have hpn := tb_pnames (s := s)
  have q1 := ho.faults
  have q2 := ho.procs
  refine (TB.check_of ?_ ?_ ?_).trans ?_
  · exact ho.name
  · exact ho.nums
  · simp only [List.length_append, List.length_singleton]; omega
  have hn2 : ∀ l, TB.names (TB.mk s.tb.name s.tb.number s.tb.version s.tb.types s.tb.faults (l)) = known s.as := fun _ => hn
  simp only [hn2]
  rw [hn] at q1 q2
  rw [if_neg (by simp [ho.types]), if_neg (by simp [q1]), procsE_snoc q2, he, hpn]
  have hx := (last_p ⟨s.as, by omega⟩ ⟨s.fs, fs_lt hf⟩ ⟨s.ps, by omega⟩).1
  have hnn : numsE ⟨lastN, 999, KT.zero, KT.zero, co, ti⟩ = (decide (ti < 1) || decide (ti > 1000) || decide (co ≥ 3)) := by
    simp [numsE, inNum]
  simp only [procsE, hnn, hx, List.nil_append, parts_zero]
  simp only [ne_eq, not_true_eq_false, if_false]
  rw [if_neg (far_number hf)]
theorem wrong_twice : (TB.mk s.tb.name s.tb.number s.tb.version s.tb.types s.tb.faults (s.tb.procs ++ [⟨xN, 999, KT.zero, KT.zero, 0, 9⟩, ⟨yN, 999, KT.zero, KT.zero, 0, 9⟩])).check = 9 := by
  have ho := tb_ok hf hc
  have h3 := ho.lens
  have has := as_le s
  have hps := ps_le s
  have hn := tb_names (s := s)
  have he := tb_enames (s := s)
  have hpn := tb_pnames (s := s)
  have q1 := ho.faults
  have q2 := ho.procs
  refine (TB.check_of ?_ ?_ ?_).trans ?_
  · exact ho.name
  · exact ho.nums
  · simp only [List.length_append, List.length_cons, List.length_nil]; omega
  have hn2 : ∀ l, TB.names (TB.mk s.tb.name s.tb.number s.tb.version s.tb.types s.tb.faults (l)) = known s.as := fun _ => hn
  simp only [hn2]
  rw [hn] at q1 q2
  rw [if_neg (by simp [ho.types]), if_neg (by simp [q1]), procsE_snoc q2, he, hpn]
  have hx := (last_p ⟨s.as, by omega⟩ ⟨s.fs, fs_lt hf⟩ ⟨s.ps, by omega⟩).2
  have hnn : ∀ n, numsE ⟨n, 999, KT.zero, KT.zero, 0, 9⟩ = false := fun n => by simp [numsE, inNum]
  simp only [procsE, hnn, hx.1, hx.2, List.nil_append, parts_zero]
  simp only [ne_eq, not_true_eq_false, if_false]
  rw [if_neg (far_number hf)]
  simp
end
/-- What is wrong with each name. -/
theorem text_check (n : Int) (kn : List ByteArray) : (KT.mk 4 n [] []).check 5 kn = outE n 1 60 := by
  simp only [KT.check, formE, manyOf, nameE, KT.checks, outE, List.length_nil]
  by_cases h : n < 1 ∨ n > 60
  · simp [h]
  · simp [h]
theorem card_check (n : Int) (kn : List ByteArray) : (KT.mk 1 n [] []).check 5 kn = outE n 0 0 := by
  simp only [KT.check, formE, manyOf, nameE, KT.checks, outE, List.length_nil]
  by_cases h : n = 0
  · simp [h]
  · rw [if_pos (show n < 0 ∨ n > 0 by omega)]
    simp [h]
theorem ref_check (m : Fin 5) : (KT.mk 9 0 [lastN] []).check 5 (known m) = 10 := by revert m; decide +kernel
theorem enum_check (m : Fin 5) : (KT.mk 7 0 [bs [97], bs [98], bs [97]] []).check 5 (known m) = 9 := by revert m; decide +kernel
theorem rec_check (kn : List ByteArray) : (KT.mk 6 0 [bs [97], bs [98]] [KT.zero]).check 5 kn = 4 := by
  simp [KT.check, formE, manyOf]
theorem kind_check (kn : List ByteArray) : (KT.mk 10 0 [] []).check 5 kn = 5 := by
  simp [KT.check, formE]
def nest : Nat → KT
  | 0 => KT.zero
  | k + 1 => .mk 5 1 [] [nest k]
theorem nest_check (m : Fin 5) : (nest 5).check 5 (known m) = 5 := by revert m; decide +kernel
theorem KT.zero_fit : KT.zero.fit := ⟨⟨by decide, fun _ h => by cases h⟩, by decide, trivial⟩
section
variable {t : TB} (h : t.fit)
include h
theorem fit_name {x : ByteArray} (hx : x.size < 2 ^ 60) : (TB.mk x t.number t.version t.types t.faults t.procs).fit := ⟨hx, h.types, h.tnames, h.faults, h.fnames, h.procs, h.pnames, h.pfit⟩
theorem fit_number (n : Int) : (TB.mk t.name n t.version t.types t.faults t.procs).fit := ⟨h.name, h.types, h.tnames, h.faults, h.fnames, h.procs, h.pnames, h.pfit⟩
theorem fit_version (n : Int) : (TB.mk t.name t.number n t.types t.faults t.procs).fit := ⟨h.name, h.types, h.tnames, h.faults, h.fnames, h.procs, h.pnames, h.pfit⟩
theorem fit_types {l : List Al} (h1 : l.length < 2 ^ 40) (h2 : ∀ a ∈ l, a.ty.fit) (h3 : ∀ a ∈ l, a.name.size < 2 ^ 60) : (TB.mk t.name t.number t.version l t.faults t.procs).fit := ⟨h.name, ⟨h1, h2⟩, h3, h.faults, h.fnames, h.procs, h.pnames, h.pfit⟩
theorem fit_alias (hl : t.types.length ≤ 4) {x : KT} (hx : x.fit) : (TB.mk t.name t.number t.version (t.types ++ [⟨lastN, x⟩]) t.faults t.procs).fit :=
  fit_types h (by simp only [List.length_append, List.length_singleton]; omega) (fun a ha => by
    rcases List.mem_append.1 ha with ha | ha
    · exact h.types.2 a ha
    · rw [List.mem_singleton.1 ha]; exact hx) (fun a ha => by
    rcases List.mem_append.1 ha with ha | ha
    · exact h.tnames a ha
    · rw [List.mem_singleton.1 ha]; show lastN.size < _; decide)
theorem fit_fault (hl : t.faults.length ≤ 4) {x : ByteArray} {n : Int} (hx : x.size < 2 ^ 60) : (TB.mk t.name t.number t.version t.types (t.faults ++ [⟨x, n⟩]) t.procs).fit :=
  ⟨h.name, h.types, h.tnames, by simp only [List.length_append, List.length_singleton]; omega, fun a ha => by
    rcases List.mem_append.1 ha with ha | ha
    · exact h.fnames a ha
    · rw [List.mem_singleton.1 ha]; exact hx, h.procs, h.pnames, h.pfit⟩
theorem fit_procs (hl : t.procs.length ≤ 4) {l : List Pc} (h1 : l.length ≤ 4) (h2 : ∀ p ∈ l, p.name.size < 2 ^ 60) (h3 : ∀ p ∈ l, p.takes = KT.zero ∧ p.answers = KT.zero) : (TB.mk t.name t.number t.version t.types t.faults (t.procs ++ l)).fit :=
  ⟨h.name, h.types, h.tnames, h.faults, h.fnames, by simp only [List.length_append]; omega, fun a ha => by
    rcases List.mem_append.1 ha with ha | ha
    · exact h.pnames a ha
    · exact h2 a ha, fun a ha => by
    rcases List.mem_append.1 ha with ha | ha
    · exact h.pfit a ha
    · rw [(h3 a ha).1, (h3 a ha).2]; exact ⟨KT.zero_fit, KT.zero_fit⟩⟩
end
theorem nest_fit : ∀ k, (nest k).fit
  | 0 => KT.zero_fit
  | k + 1 => ⟨⟨by decide, fun _ h => by cases h⟩, (by show 1 < 2 ^ 40; decide), nest_fit k, trivial⟩
end Go.Pv
/- Tables that differ in one place. No condition. -/
namespace Go.Pv

theorem seqB_ne {x y : ByteArray} (h : x ≠ y) : seqB x y = false := by
  cases e : seqB x y with
  | false => rfl
  | true => exact absurd (seqB_iff.1 e) h
theorem name_ne (x : ByteArray) : seqB x (x ++ bs [120]) = false ∧ seqB (x ++ bs [120]) x = false := by
  have : (x ++ bs [120]).size = x.size + 1 := by rw [ByteArray.size_append]; rfl
  exact ⟨seqB_ne fun e => by rw [← e] at this; omega, seqB_ne fun e => by rw [e] at this; omega⟩
theorem wrap_ne (n : Int) : IntKind.i64.wrap (n + 1) ≠ n := by
  simp only [IntKind.wrap, IntKind.signed, IntKind.bits]
  omega
theorem wrap8_ne (n : Int) : IntKind.u8.wrap (n + 1) ≠ n := by
  simp only [IntKind.wrap, IntKind.signed, IntKind.bits]
  omega
theorem beq_no {a b : Int} (h : a ≠ b) : (a == b) = false ∧ (b == a) = false := ⟨by simpa using h, by simpa using fun e => h e.symm⟩
section
variable (t : TB)
theorem alike_name : t.alike (TB.mk (t.name ++ bs [120]) t.number t.version t.types t.faults t.procs) = false ∧ (TB.mk (t.name ++ bs [120]) t.number t.version t.types t.faults t.procs).alike t = false := by
  simp [TB.alike, name_ne t.name]
theorem alike_number : t.alike (TB.mk t.name (IntKind.i64.wrap (t.number + 1)) t.version t.types t.faults t.procs) = false ∧ (TB.mk t.name (IntKind.i64.wrap (t.number + 1)) t.version t.types t.faults t.procs).alike t = false := by
  simp only [TB.alike, beq_no (wrap_ne t.number), Bool.and_false, Bool.false_and, and_self]
theorem alike_types {l : List Al} (h : eqAll Al.same t.types l = false ∧ eqAll Al.same l t.types = false) : t.alike (TB.mk t.name t.number t.version l t.faults t.procs) = false ∧ (TB.mk t.name t.number t.version l t.faults t.procs).alike t = false := by
  simp only [TB.alike, h.1, h.2, Bool.and_false, Bool.false_and, and_self]
theorem alike_faults {l : List Fl} (h : eqAll Fl.same t.faults l = false ∧ eqAll Fl.same l t.faults = false) : t.alike (TB.mk t.name t.number t.version t.types l t.procs) = false ∧ (TB.mk t.name t.number t.version t.types l t.procs).alike t = false := by
  simp only [TB.alike, h.1, h.2, Bool.and_false, Bool.false_and, and_self]
theorem alike_procs {l : List Pc} (h : eqAll Pc.same t.procs l = false ∧ eqAll Pc.same l t.procs = false) : t.alike (TB.mk t.name t.number t.version t.types t.faults l) = false ∧ (TB.mk t.name t.number t.version t.types t.faults l).alike t = false := by
  simp only [TB.alike, h.1, h.2, Bool.and_false, and_self]
end
theorem more_ne {α : Type} {e : α → α → Bool} (l : List α) (x : α) : eqAll e l (l ++ [x]) = false ∧ eqAll e (l ++ [x]) l = false := ⟨eqAll_ne (by simp), eqAll_ne (by simp)⟩
theorem head_ne {α : Type} {e : α → α → Bool} {x y : α} (l : List α) (h : e x y = false ∧ e y x = false) : eqAll e (x :: l) (y :: l) = false ∧ eqAll e (y :: l) (x :: l) = false := by
  simp [eqAll, h]
theorem pc_time (p : Pc) : Pc.same p { p with timeout := IntKind.i64.wrap (p.timeout + 1) } = false ∧ Pc.same { p with timeout := IntKind.i64.wrap (p.timeout + 1) } p = false := by
  simp only [Pc.same, beq_no (wrap_ne p.timeout), Bool.and_false, and_self]
theorem pc_coll (p : Pc) : Pc.same p { p with collate := IntKind.u8.wrap (p.collate + 1) } = false ∧ Pc.same { p with collate := IntKind.u8.wrap (p.collate + 1) } p = false := by
  simp only [Pc.same, beq_no (wrap8_ne p.collate), Bool.and_false, Bool.false_and, and_self]
def Al.more (a : Al) : Al := ⟨a.name, .mk a.ty.kind (IntKind.i64.wrap (a.ty.most + 1)) a.ty.names a.ty.of⟩
theorem al_most (a : Al) : Al.same a a.more = false ∧ Al.same a.more a = false := by
  obtain ⟨n, ⟨k, m, ns, o⟩⟩ := a
  simp only [Al.same, Al.more, KT.kind, KT.most, KT.names, KT.of, KT.same, beq_no (wrap_ne m), Bool.and_false, Bool.false_and, and_self]
theorem alike_self (t : TB) : t.alike t = true := by
  simp only [TB.alike, seqB_refl, beq_self_eq_true, Bool.true_and, Bool.and_eq_true]
  exact ⟨⟨eqAll_refl fun a _ => by simp [Al.same, seqB_refl, same_refl], eqAll_refl fun a _ => by simp [Fl.same, seqB_refl]⟩, eqAll_refl fun a _ => by simp [Pc.same, seqB_refl, same_refl]⟩
end Go.Pv
