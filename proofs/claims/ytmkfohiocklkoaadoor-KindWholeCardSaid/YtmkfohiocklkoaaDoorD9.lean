/- What the tables that small numbers stand for are like. No condition. -/
import Derived.Test.YtmkfohiocklkoaaDoorD8
namespace Go.Pv

theorem Nd.zero_fit : Nd.zero.fit := by rw [Nd.fit_eq]; exact ⟨by decide, by decide, by decide, fun x h => by cases h⟩
section
variable {s : Sm} (hf : s.fit)
def Sm.types (s : Sm) (m : Nat) : List Al := (List.range m).map s.al
theorem Sm.types_len (s : Sm) (m : Nat) : (s.types m).length = m := by simp [Sm.types]
theorem Sm.types_get (s : Sm) {m i : Nat} (h : i < (s.types m).length) : (s.types m)[i] = s.al i := by simp [Sm.types]
theorem Sm.types_take (s : Sm) {m i : Nat} (h : i ≤ m) : (s.types m).take i = s.types i := by
  unfold Sm.types
  rw [← List.map_take, List.take_range, Nat.min_eq_left h]
theorem known_len (m : Nat) : (known m).length = m := by simp [known]
theorem known_get {m i : Nat} (h : i < (known m).length) : (known m)[i] = tname i := by simp [known]
theorem types_names (m : Nat) : (s.types m).map Al.name = known m := by simp [Sm.types, known, Sm.al, Function.comp_def]
include hf in
theorem alias_fit (i : Nat) : (s.aliases.getD i Nd.zero).fit := by
  rw [List.getD_eq_getElem?_getD]
  cases h : s.aliases[i]? with
  | none => exact Nd.zero_fit
  | some y => exact hf.aliases y (List.mem_of_getElem? h)
include hf in
theorem proc_fit (i : Nat) : (s.procs.getD i ⟨Nd.zero, Nd.zero, 0, 0⟩).fit := by
  rw [List.getD_eq_getElem?_getD]
  cases h : s.procs[i]? with
  | none => exact ⟨Nd.zero_fit, Nd.zero_fit, by decide, by decide⟩
  | some y => exact hf.procs y (List.mem_of_getElem? h)
theorem ref_hit {m i : Nat} (hi : i < m) : refAt (s.types m) [tname i] < (s.types m).length := by
  unfold refAt
  rw [List.findIdx_lt_length]
  refine ⟨s.al i, List.mem_map.2 ⟨i, by simpa using hi, rfl⟩, ?_⟩
  simp only [List.length_singleton, decide_true, Bool.true_and, List.getD_cons_zero]
  exact seqB_iff.2 rfl
theorem typ_dokc (m : Nat) (IH : ∀ i, i < m → ∀ D, 3 + 3 * i ≤ D → dokc D (s.types i) (s.al i).ty) {d : Nat} {x : Nd} (hd : 1 ≤ d) (hx : x.fit) : ∀ D, d + 3 * m ≤ D → dokc D (s.types m) (Nd.typ d x (known m)) := by
  refine typ_ind (P := fun d y => ∀ D, d + 3 * m ≤ D → dokc D (s.types m) y) (known m) ?_ ?_ ?_ ?_ ?_ ?_ d x hd hx
  · intro d k h1 h2 h3 D hD
    obtain ⟨D, rfl⟩ : ∃ D', D = D' + 1 := ⟨D - 1, by omega⟩
    exact ⟨fun e => by simp only [ktp] at e; omega, fun o ho => by cases ho⟩
  · intro d k h1 h2 h3 D hD
    obtain ⟨D, rfl⟩ : ∃ D', D = D' + 1 := ⟨D - 1, by omega⟩
    exact ⟨fun e => by simp only [ktp] at e; omega, fun o ho => by cases ho⟩
  · intro d k o h1 h2 h3 h D hD
    obtain ⟨D, rfl⟩ : ∃ D', D = D' + 1 := ⟨D - 1, by omega⟩
    exact ⟨fun e => by simp only [ktp] at e; omega, fun u hu => by simp only [ktp] at hu; rw [List.mem_singleton.1 hu]; exact h D (by omega)⟩
  · intro d k n many sub h1 h2 h3 h4 h5 h6 h D hD
    obtain ⟨D, rfl⟩ : ∃ D', D = D' + 1 := ⟨D - 1, by omega⟩
    refine ⟨fun e => by simp only [ktp] at e; omega, fun u hu => ?_⟩
    simp only [ktp] at hu
    obtain ⟨i, hi, rfl⟩ := List.mem_map.1 hu
    exact h i (by simpa using hi) D (by omega)
  · intro d n many h1 h2 h3 h4 h5 D hD
    obtain ⟨D, rfl⟩ : ∃ D', D = D' + 1 := ⟨D - 1, by omega⟩
    exact ⟨fun e => by simp only [ktp] at e; omega, fun o ho => by cases ho⟩
  · intro d i hi h1 D hD
    obtain ⟨D, rfl⟩ : ∃ D', D = D' + 1 := ⟨D - 1, by omega⟩
    have him : i < m := by rwa [known_len] at hi
    refine ⟨fun _ => ⟨rfl, ?_, fun j hj => ?_⟩, fun o ho => by cases ho⟩
    · simp only [ktp]
      rw [known_get]
      exact ref_hit him
    · rw [Sm.types_len] at hj
      rw [Sm.types_get, Sm.types_take s (by omega)]
      exact IH j hj D (by omega)
include hf in
theorem al_dokc : ∀ i D, 3 + 3 * i ≤ D → dokc D (s.types i) (s.al i).ty := by
  intro i
  induction i using Nat.strongRecOn with
  | ind i ih => exact typ_dokc i ih (by decide) (alias_fit hf i)
include hf in
theorem types_dokc (m : Nat) {x : Nd} (hx : x.fit) {D : Nat} (hD : 3 + 3 * m ≤ D) : dokc D (s.types m) (Nd.typ 3 x (known m)) := typ_dokc m (fun i _ => al_dokc hf i) (by decide) hx D hD

theorem tname_size (i : Nat) : (tname i).size = 4 := rfl
theorem ename_size (i : Nat) : (ename i).size = 4 := rfl
theorem pname_size (i : Nat) : (pname i).size = 4 := rfl
theorem known_small (m : Nat) : ∀ s ∈ known m, s.size < 2 ^ 60 := fun s hs => by
  obtain ⟨i, _, rfl⟩ := List.mem_map.1 hs
  rw [tname_size]; decide
theorem as_le (s : Sm) : s.as ≤ 4 := Nat.min_le_right _ _
theorem ps_le (s : Sm) : s.ps ≤ 4 := Nat.min_le_right _ _
include hf in
theorem fs_lt : s.fs < 4 := by have := hf.faults; unfold Sm.fs; omega
include hf in
theorem al_fit (i : Nat) : (s.al i).ty.fit := typ_fit (by decide) (alias_fit hf i) (known_small i)
include hf in
theorem pc_fit (i : Nat) : (s.pc i).takes.fit ∧ (s.pc i).answers.fit := ⟨typ_fit (by decide) (proc_fit hf i).1 (known_small _), typ_fit (by decide) (proc_fit hf i).2.1 (known_small _)⟩
include hf in
theorem tb_fit : s.tb.fit where
  name := by show face.size < _; decide
  types := ⟨by have := as_le s; simp [Sm.tb]; omega, fun a ha => by
    obtain ⟨i, _, rfl⟩ := List.mem_map.1 ha; exact al_fit hf i⟩
  tnames := fun a ha => by obtain ⟨i, _, rfl⟩ := List.mem_map.1 ha; show (tname i).size < _; rw [tname_size]; decide
  faults := by have := fs_lt hf; simp [Sm.tb]; omega
  fnames := fun a ha => by obtain ⟨i, _, rfl⟩ := List.mem_map.1 ha; show (ename i).size < _; rw [ename_size]; decide
  procs := by have := ps_le s; simp [Sm.tb]; omega
  pnames := fun a ha => by obtain ⟨i, _, rfl⟩ := List.mem_map.1 ha; show (pname i).size < _; rw [pname_size]; decide
  pfit := fun a ha => by obtain ⟨i, _, rfl⟩ := List.mem_map.1 ha; exact pc_fit hf i

theorem inNum_of {n : Int} (h1 : 0 ≤ n) (h2 : n ≤ 65535) : inNum n = true := by simp [inNum, h1, h2]
/-- All names are names, and apart. -/
def enames (k : Nat) : List ByteArray := (List.range k).map ename
def pnames (k : Nat) : List ByteArray := (List.range k).map pname
theorem fresh_t : ∀ i : Fin 4, freshE (tname i) (known i) = 0 := by decide +kernel
theorem fresh_e : ∀ a : Fin 5, ∀ i : Fin 4, freshE (ename i) (known a ++ enames i) = 0 := by decide +kernel
theorem fresh_p : ∀ a : Fin 5, ∀ f : Fin 4, ∀ i : Fin 4, freshE (pname i) (known a ++ enames f ++ pnames i) = 0 := by decide +kernel

include hf in
theorem types_ok : ∀ (n k : Nat), k + n ≤ 4 → typesE ((List.range' k n).map s.al) (known k) = 0
  | 0, _, _ => rfl
  | n + 1, k, h => by
    rw [List.range'_succ, List.map_cons, typesE]
    have h1 : freshE (s.al k).name (known k) = 0 := fresh_t ⟨k, by omega⟩
    have h2 : (s.al k).ty.check 5 (known k) = 0 := typ_check (by decide) (alias_fit hf k) 5 (by decide)
    rw [if_neg (by simp [h1]), if_neg (by simp [h2])]
    have : known k ++ [(s.al k).name] = known (k + 1) := by rw [known, known, range_snoc]; rfl
    rw [this]
    exact types_ok n (k + 1) (by omega)
theorem faults_ok (a : Nat) (ha : a ≤ 4) : ∀ (n k : Nat), k + n ≤ 4 → faultsE ((List.range' k n).map flOf) (known a ++ enames k) ((List.range k).map fun i : Nat => (10 * i : Int)) = 0
  | 0, _, _ => rfl
  | n + 1, k, h => by
    rw [List.range'_succ, List.map_cons, faultsE]
    have h1 : freshE (flOf k).name (known a ++ enames k) = 0 := fresh_e ⟨a, by omega⟩ ⟨k, by omega⟩
    have h2 : inNum (flOf k).number = true := inNum_of (show 0 ≤ 10 * (k : Int) by omega) (show 10 * (k : Int) ≤ 65535 by omega)
    have h3 : (flOf k).number ∉ (List.range k).map fun i : Nat => (10 * i : Int) := by
      simp only [flOf, List.mem_map, List.mem_range, not_exists, not_and]
      intro i hi e; omega
    rw [if_neg (by simp [h1]), if_neg (by simp [h2]), if_neg h3]
    have e1 : known a ++ enames k ++ [(flOf k).name] = known a ++ enames (k + 1) := by rw [List.append_assoc, enames, enames, range_snoc]; rfl
    have e2 : ((List.range k).map fun i : Nat => (10 * i : Int)) ++ [(flOf k).number] = (List.range (k + 1)).map fun i : Nat => (10 * i : Int) := by rw [range_snoc]; rfl
    rw [e1, e2]
    exact faults_ok a ha n (k + 1) (by omega)
/-- Has a procedure no type with too many parts? -/
def few (types : List Al) (p : Pc) : Bool := decide (cnt 20 types p.takes ≤ 200) && decide (cnt 20 types p.answers ≤ 200)
include hf in
theorem pc_dokc (i : Nat) : dokc 20 (s.types s.as) (s.pc i).takes ∧ dokc 20 (s.types s.as) (s.pc i).answers := by
  have := as_le s
  exact ⟨types_dokc hf _ (proc_fit hf i).1 (by omega), types_dokc hf _ (proc_fit hf i).2.1 (by omega)⟩
include hf in
theorem parts_few (i : Nat) : partsE (s.types s.as) (known s.as) [(s.pc i).takes, (s.pc i).answers] = if few (s.types s.as) (s.pc i) = true then 0 else 6 := by
  obtain ⟨h1, h2⟩ := pc_dokc hf i
  have c1 : (s.pc i).takes.check 5 (known s.as) = 0 := typ_check (by decide) (proc_fit hf i).1 5 (by decide)
  have c2 : (s.pc i).answers.check 5 (known s.as) = 0 := typ_check (by decide) (proc_fit hf i).2.1 5 (by decide)
  have w1 := wholeM_cnt h1 200 (by decide)
  have w2 := wholeM_cnt h2 200 (by decide)
  simp only [partsE, c1, c2, few]
  generalize wholeM 20 (s.types s.as) (s.pc i).takes 200 = W1 at *
  generalize wholeM 20 (s.types s.as) (s.pc i).answers 200 = W2 at *
  by_cases k1 : cnt 20 (s.types s.as) (s.pc i).takes ≤ 200
  · rw [w1.1 (by omega)]
    by_cases k2 : cnt 20 (s.types s.as) (s.pc i).answers ≤ 200
    · rw [w2.1 (by omega)]; simp [k1, k2]
    · rw [w2.2 (by omega)]; simp [k2]
  · rw [w1.2 (by omega)]; simp [k1]
include hf in
theorem procs_ok (f : Nat) (hff : f < 4) : ∀ (n k : Nat), k + n ≤ 4 →
    procsE (s.types s.as) (known s.as) ((List.range' k n).map s.pc) (known s.as ++ enames f ++ pnames k) ((List.range k).map fun i : Nat => (i + s.number % 9 : Int)) = if ((List.range' k n).map s.pc).all (few (s.types s.as)) = true then 0 else 6
  | 0, _, _ => rfl
  | n + 1, k, h => by
    have has := as_le s
    have hnum := hf.number
    have hpf := proc_fit hf k
    rw [List.range'_succ, List.map_cons, procsE]
    have h1 : freshE (s.pc k).name (known s.as ++ enames f ++ pnames k) = 0 := fresh_p ⟨s.as, by omega⟩ ⟨f, hff⟩ ⟨k, by omega⟩
    have h2 : numsE (s.pc k) = false := by
      have q1 : inNum (s.pc k).number = true := inNum_of (show 0 ≤ (k : Int) + s.number % 9 by omega) (show (k : Int) + s.number % 9 ≤ 65535 by omega)
      have q2 : (s.pc k).collate = (s.procs.getD k ⟨Nd.zero, Nd.zero, 0, 0⟩).collate % 3 := rfl
      have q3 : (s.pc k).timeout = 1 + (s.procs.getD k ⟨Nd.zero, Nd.zero, 0, 0⟩).timeout % 1000 := rfl
      have := hpf.2.2.1
      have := hpf.2.2.2
      rw [numsE, q1, q2, q3, decide_eq_false (by omega), decide_eq_false (by omega), decide_eq_false (by omega)]
      rfl
    have h3 : (s.pc k).number ∉ (List.range k).map fun i : Nat => (i + s.number % 9 : Int) := by
      simp only [Sm.pc, List.mem_map, List.mem_range, not_exists, not_and]
      intro i hi e; omega
    rw [if_neg (by rw [h1]; decide), if_neg (by simp [h2]), if_neg h3, parts_few hf k]
    have e1 : known s.as ++ enames f ++ pnames k ++ [(s.pc k).name] = known s.as ++ enames f ++ pnames (k + 1) := by rw [List.append_assoc (known s.as ++ enames f), pnames, pnames, range_snoc]; rfl
    have e2 : ((List.range k).map fun i : Nat => (i + s.number % 9 : Int)) ++ [(s.pc k).number] = (List.range (k + 1)).map fun i : Nat => (i + s.number % 9 : Int) := by rw [range_snoc]; rfl
    rw [e1, e2, List.all_cons]
    by_cases hfew : few (s.types s.as) (s.pc k) = true
    · rw [if_pos hfew, if_neg (by decide), hfew, Bool.true_and]
      exact procs_ok f hff n (k + 1) (by omega)
    · rw [if_neg hfew, if_pos (by decide)]
      simp [hfew]
include hf in
theorem tb_check : s.tb.check = if s.tb.procs.all (few s.tb.types) = true then 0 else 6 := by
  have has := as_le s
  have hps := ps_le s
  have hfs := fs_lt hf
  have hnum := hf.number
  have h1 := types_ok hf s.as 0 (by omega)
  have h2 := faults_ok s.as has s.fs 0 (by omega)
  have h3 := procs_ok hf s.fs hfs s.ps 0 (by omega)
  rw [← List.range_eq_range'] at h1 h2 h3
  have en : s.tb.names = known s.as := types_names s.as
  have ef : s.tb.faults.map Fl.name = enames s.fs := by simp [Sm.tb, enames, flOf, Function.comp_def]
  have f0 : isName face = true := by decide +kernel
  rw [TB.check, if_neg (by show ¬ isName face = false; rw [f0]; decide), if_neg (by rw [show inNum s.tb.number = true from inNum_of hnum.1 hnum.2, show inNum s.tb.version = true from inNum_of (show 0 ≤ s.number % 7 by omega) (show s.number % 7 ≤ 65535 by omega)]; decide), if_neg (by simp [Sm.tb]; omega), en, ef]
  have h1' : typesE s.tb.types [] = 0 := h1
  have e0 : known s.as ++ enames 0 = known s.as := by simp [enames]
  rw [e0] at h2
  have h2' : faultsE s.tb.faults (known s.as) [] = 0 := h2
  rw [if_neg (by simp [h1']), if_neg (by simp [h2'])]
  have : known s.as ++ enames s.fs ++ pnames 0 = known s.as ++ enames s.fs := by simp [pnames]
  rw [this] at h3
  exact h3
end
end Go.Pv
