/- Programs that may be, out of small numbers. No condition. -/
import Derived.Test.YtmcdhendjlijhaaX1
namespace Go.Pv
set_option maxRecDepth 100000

/-- An instruction, by small numbers. -/
structure Sm10 where
  op : Int
  dst : Int
  a : Int
  b : Int
  n : Int
  raw : Bool
def Sm10.row (x : Sm10) : List Dat := [.int .u8 x.op, .int .u8 x.dst, .int .u8 x.a, .int .u8 x.b, .int .i16 x.n, .bool x.raw]
theorem Sm10.row_len (x : Sm10) : x.row.length = 6 := rfl
theorem Sm10.row_av (x : Sm10) : x.row.map AV.d = [.d (.int .u8 x.op), .d (.int .u8 x.dst), .d (.int .u8 x.a), .d (.int .u8 x.b), .d (.int .i16 x.n), .d (.bool x.raw)] := rfl
structure Sm10.fit (x : Sm10) : Prop where
  op : 0 ≤ x.op ∧ x.op ≤ 255
  dst : 0 ≤ x.dst ∧ x.dst ≤ 255
  a : 0 ≤ x.a ∧ x.a ≤ 255
  b : 0 ≤ x.b ∧ x.b ≤ 255
  n : -32768 ≤ x.n ∧ x.n ≤ 32767

/-- The last bits. -/
def low (n m : Int) : Int := ((BitVec.ofInt 16 n &&& BitVec.ofInt 16 m).toNat : Int)
theorem low_le (n : Int) {m : Nat} (hm : m < 32768) : 0 ≤ low n m ∧ low n m ≤ m := by
  unfold low
  refine ⟨Int.natCast_nonneg _, ?_⟩
  have : (BitVec.ofInt 16 n &&& BitVec.ofInt 16 (m : Int)).toNat ≤ (BitVec.ofInt 16 (m : Int)).toNat := by rw [BitVec.toNat_and]; exact Nat.and_le_right
  rw [BitVec.toNat_ofInt] at this
  have e : (((m : Int) % (2 ^ 16 : Nat)).toNat : Int) = m := by omega
  omega
def tame (x : Sm10) : Ins :=
  if x.op % 12 = 9 then ⟨9, x.dst % 16, x.a % 16, 1 + x.b % 4, 1 + low x.n 7⟩
  else if x.op % 12 = 8 then ⟨8, x.dst % 16, x.a % 16, x.b % 16, 1 + low x.n 3⟩
  else if x.op % 12 = 10 then ⟨10, x.dst % 16, x.a % 16, x.b % 16, low x.n 31⟩
  else ⟨x.op % 12, x.dst % 16, x.a % 16, x.b % 16, x.n⟩

/-- What is right of an instruction by itself. -/
structure Tm (x : Ins) : Prop where
  op : 0 ≤ x.op ∧ x.op < 12
  dst : 0 ≤ x.dst ∧ x.dst < 16
  a : 0 ≤ x.a ∧ x.a < 16
  b : 0 ≤ x.b ∧ x.b < 16
  n : -32768 ≤ x.n ∧ x.n ≤ 32767
  loop : x.op = 9 → 1 ≤ x.b ∧ x.b ≤ 4 ∧ 1 ≤ x.n ∧ x.n ≤ 8
  raise : x.op = 10 → 0 ≤ x.n
theorem Tm.fit {x : Ins} (h : Tm x) : x.fit := ⟨by have := h.op; omega, by have := h.dst; omega, by have := h.a; omega, by have := h.b; omega, h.n⟩
theorem tame_tm {x : Sm10} (h : x.fit) : Tm (tame x) := by
  obtain ⟨h1, h2, h3, h4, h5⟩ := h
  have l7 : 0 ≤ low x.n 7 ∧ low x.n 7 ≤ 7 := low_le x.n (m := 7) (by decide)
  have l3 : 0 ≤ low x.n 3 ∧ low x.n 3 ≤ 3 := low_le x.n (m := 3) (by decide)
  have l31 : 0 ≤ low x.n 31 ∧ low x.n 31 ≤ 31 := low_le x.n (m := 31) (by decide)
  unfold tame
  split
  · exact ⟨by dsimp only; omega, by dsimp only; omega, by dsimp only; omega, by dsimp only; omega, by dsimp only at *; omega, fun _ => by dsimp only at *; omega, fun h => by dsimp only at h; omega⟩
  split
  · exact ⟨by dsimp only; omega, by dsimp only; omega, by dsimp only; omega, by dsimp only; omega, by dsimp only at *; omega, fun h => by dsimp only at h; omega, fun h => by dsimp only at h; omega⟩
  split
  · exact ⟨by dsimp only; omega, by dsimp only; omega, by dsimp only; omega, by dsimp only; omega, by dsimp only at *; omega, fun h => by dsimp only at h; omega, fun _ => by dsimp only at *; omega⟩
  · exact ⟨by dsimp only; omega, by dsimp only; omega, by dsimp only; omega, by dsimp only; omega, by dsimp only; omega, fun h => by dsimp only at h; omega, fun h => by dsimp only at h; omega⟩

def mvI : Ins := ⟨2, 0, 0, 0, 0⟩
theorem mvI_tm : Tm mvI := ⟨by decide, by decide, by decide, by decide, by decide, by decide, by decide⟩
def jumps (x : Ins) : Bool := x.op == 9 || x.op == 8
def badI (p : List Ins) : Int := if checkP p = 0 then -1 else match p.findIdx? jumps with | none => -1 | some i => (i : Nat)
/-- So far. -/
def badK (p : List Ins) (k : Nat) : Int := if checkP p = 0 then -1 else match (p.take k).findIdx? jumps with | none => -1 | some i => (i : Nat)
def fixN : Nat → List Ins → List Ins
  | 0, p => p
  | n + 1, p => if badI p < 0 then p else fixN n (p.set (badI p).toNat mvI)
def prgM (l : List Sm10) : List Ins := fixN 40 ((l.take 16).map tame)

theorem badK_0 (p : List Ins) : badK p 0 = -1 := by
  unfold badK
  split <;> rfl
theorem badK_len (p : List Ins) : badK p p.length = badI p := by
  unfold badK badI
  rw [List.take_length]
theorem findIdx_snoc {f : Ins → Bool} (l : List Ins) (x : Ins) : (l ++ [x]).findIdx? f = match l.findIdx? f with | some i => some i | none => if f x = true then some l.length else none := by
  rw [List.findIdx?_append]
  cases h : l.findIdx? f with
  | some i => rfl
  | none =>
    simp only [Option.none_or, List.findIdx?_cons, List.findIdx?_nil]
    split <;> simp
theorem badK_succ {p : List Ins} {k : Nat} {x : Ins} (hx : p[k]? = some x) : badK p (k + 1) = if badK p k < 0 ∧ checkP p ≠ 0 ∧ jumps x = true then (k : Int) else badK p k := by
  have hk : k < p.length := (List.getElem?_eq_some_iff.1 hx).1
  have e : p.take (k + 1) = p.take k ++ [x] := by
    rw [List.take_add_one, hx]; rfl
  unfold badK
  by_cases hc : checkP p = 0
  · rw [if_pos hc, if_pos hc, if_neg (by omega)]
  · rw [if_neg hc, if_neg hc, e, findIdx_snoc]
    cases h : (p.take k).findIdx? jumps with
    | some i =>
      simp only
      rw [if_neg (by omega)]
    | none =>
      simp only
      by_cases hj : jumps x = true
      · rw [if_pos hj, if_pos ⟨by omega, hc, hj⟩]
        simp [List.length_take]; omega
      · rw [if_neg hj, if_neg (by simp [hj])]
end Go.Pv
/- What comes out of the rounds may be. No condition. -/
namespace Go.Pv
set_option maxRecDepth 100000

theorem skip_last {p : List Ins} {i : Nat} {x : Ins} (hx : p[i]? = some x) (h8 : x.op = 8) : checkP (p.take (i + 1)) ≠ 0 := by
  intro h
  obtain ⟨_, _, h3⟩ := checkP_zero h
  have hi : i < p.length := (List.getElem?_eq_some_iff.1 hx).1
  have := chk1_zero.1 (h3 i x (by rw [List.getElem?_take, if_pos (by omega), hx]))
  obtain ⟨k1, k2, _, _⟩ := this.skip h8
  simp [List.length_take] at k2
  omega
theorem sum_zero : ∀ {l : List Int}, (∀ x ∈ l, x = 0) → l.sum = 0
  | [], _ => rfl
  | x :: l, h => by rw [List.sum_cons, h x List.mem_cons_self, sum_zero fun y hy => h y (List.mem_cons_of_mem _ hy)]; rfl
theorem flat_fuel {p : List Ins} (h : ∀ x ∈ p, x.op ≠ 9) : fuelP p = p.length := by
  rw [fuelP, sum_zero fun y hy => ?_, Int.add_zero]
  obtain ⟨x, hx, rfl⟩ := List.mem_map.1 hy
  exact if_neg (h x hx)
theorem flat_chk {p : List Ins} (ht : ∀ x ∈ p, Tm x) (hl : p.length ≤ 24) (hj : ∀ x ∈ p, jumps x = false) : checkP p = 0 := by
  have h9 : ∀ x ∈ p, x.op ≠ 9 := fun x hx e => by have := hj x hx; simp [jumps, e] at this
  have h8 : ∀ x ∈ p, x.op ≠ 8 := fun x hx e => by have := hj x hx; simp [jumps, e] at this
  refine checkP_of hl (by rw [flat_fuel h9]; omega) fun i x hx => chk1_zero.2 ?_
  have hm := List.mem_of_getElem? hx
  have t := ht x hm
  exact ⟨t.op.2, t.dst.2, t.a.2, fun _ => t.b.2, fun h => absurd h (h9 x hm), fun h => absurd h (h8 x hm), t.raise⟩
theorem badI_none {p : List Ins} (h : badI p < 0) : checkP p = 0 ∨ ∀ x ∈ p, jumps x = false := by
  unfold badI at h
  split at h
  · exact .inl (by assumption)
  · split at h
    · rename_i hf
      right
      intro x hx
      have := List.findIdx?_eq_none_iff.1 hf x hx
      simpa using this
    · omega
theorem badI_some {p : List Ins} (h : ¬ badI p < 0) : ∃ x, p[(badI p).toNat]? = some x ∧ jumps x = true ∧ (badI p).toNat < p.length ∧ badI p = ((badI p).toNat : Int) := by
  unfold badI at h ⊢
  split at h
  · omega
  · rename_i hc
    split at h
    · omega
    · rename_i i hf
      rw [if_neg hc]
      obtain ⟨hi, h1, _⟩ := List.findIdx?_eq_some_iff_getElem.1 hf
      simp only [Int.toNat_natCast]
      exact ⟨p[i], List.getElem?_eq_getElem hi, h1, hi, trivial⟩
theorem set_tm {p : List Ins} (h : ∀ x ∈ p, Tm x) (i : Nat) : ∀ x ∈ p.set i mvI, Tm x := fun x hx => by
  rcases List.mem_or_eq_of_mem_set hx with hx | rfl
  · exact h x hx
  · exact mvI_tm
theorem fixN_ok : ∀ (n : Nat) (p : List Ins), (∀ x ∈ p, Tm x) → p.length ≤ 24 → p.countP jumps ≤ n → checkP (fixN n p) = 0 ∧ (∀ x ∈ fixN n p, Tm x) ∧ (fixN n p).length = p.length
  | 0, p, ht, hl, hc => ⟨flat_chk ht hl fun x hx => by
      have := List.countP_eq_zero.1 (Nat.le_zero.1 hc) x hx
      simpa using this, ht, rfl⟩
  | n + 1, p, ht, hl, hc => by
    rw [fixN]
    split
    · rename_i hb
      refine ⟨?_, ht, rfl⟩
      rcases badI_none hb with h | h
      · exact h
      · exact flat_chk ht hl h
    · rename_i hb
      obtain ⟨x, hx, hj, hi, _⟩ := badI_some hb
      obtain ⟨k1, k2, k3⟩ := fixN_ok n (p.set (badI p).toNat mvI) (set_tm ht _) (by simpa using hl) (by
        rw [List.countP_set hi]
        obtain ⟨_, hx'⟩ := List.getElem?_eq_some_iff.1 hx
        rw [if_pos (by rw [hx']; exact hj), if_neg (by decide)]
        omega)
      exact ⟨k1, k2, by simpa using k3⟩
theorem base_tm {l : List Sm10} (h : ∀ x ∈ l, x.fit) : ∀ x ∈ (l.take 16).map tame, Tm x := fun x hx => by
  obtain ⟨y, hy, rfl⟩ := List.mem_map.1 hx
  exact tame_tm (h y (List.mem_of_mem_take hy))
theorem base_len (l : List Sm10) : ((l.take 16).map tame).length ≤ 16 := by rw [List.length_map, List.length_take]; omega
theorem prgM_ok {l : List Sm10} (h : ∀ x ∈ l, x.fit) : checkP (prgM l) = 0 ∧ (∀ x ∈ prgM l, Tm x) ∧ (prgM l).length ≤ 16 := by
  obtain ⟨h1, h2, h3⟩ := fixN_ok 40 _ (base_tm h) (by have := base_len l; omega) (by have := List.countP_le_length (p := jumps) (l := (l.take 16).map tame); have := base_len l; omega)
  exact ⟨h1, h2, by have := base_len l; unfold prgM; omega⟩
theorem fixN_stop {p : List Ins} (h : badI p < 0) : ∀ n, fixN n p = p
  | 0 => rfl
  | n + 1 => by rw [fixN, if_pos h]
end Go.Pv
