/- Members but one, and with one: plain. No condition. -/
import Derived.Test.YtoghanbjiikheaaT24
namespace Go.Pv
set_option maxRecDepth 100000

theorem and16 {x y : Nat} (hx : x < 65536) (hy : y < 65536) : IntKind.u16.wrap ((BitVec.ofInt 16 (x : Int) &&& BitVec.ofInt 16 (y : Int)).toNat : Int) = ((x &&& y : Nat) : Int) := by
  have h1 : BitVec.ofInt 16 (x : Int) = BitVec.ofNat 16 x := by simp
  have h2 : BitVec.ofInt 16 (y : Int) = BitVec.ofNat 16 y := by simp
  have h3 : x &&& y < 65536 := Nat.lt_of_le_of_lt Nat.and_le_left hx
  rw [h1, h2, BitVec.toNat_and, BitVec.toNat_ofNat, BitVec.toNat_ofNat, Nat.mod_eq_of_lt (by omega), Nat.mod_eq_of_lt (by omega)]
  simp [IntKind.wrap, IntKind.signed, IntKind.bits]
  omega
theorem bitOf_nat {a k : Nat} (ha : a < 65536) (hk : k < 16) : bitOf a k = a.testBit k := by
  have h1 : (a : Int).fdiv (2 ^ min (k : Int).toNat 16) = ((a / 2 ^ k : Nat) : Int) := by
    rw [show min (k : Int).toNat 16 = k by omega, show (2 : Int) ^ k = ((2 ^ k : Nat) : Int) by simp]
    exact (Int.ofNat_fdiv a (2 ^ k)).symm
  have h2 : a / 2 ^ k < 65536 := Nat.lt_of_le_of_lt (Nat.div_le_self _ _) ha
  unfold bitOf
  rw [h1]
  have h3 := and16 h2 (show 1 < 65536 by omega)
  rw [show ((1 : Nat) : Int) = 1 from rfl] at h3
  rw [h3, Nat.testBit_eq_decide_div_mod_eq, Nat.and_one_is_mod]
  rcases Nat.mod_two_eq_zero_or_one (a / 2 ^ k) with h | h <;> rw [h] <;> rfl

theorem memb0_nat {a : Nat} (ha : a < 65536) : memb0 a 16 = ((List.range 16).filter fun k => a.testBit k).map fun (n : Nat) => (n : Int) := by
  unfold memb0
  congr 1
  apply List.filter_congr
  intro k hk
  exact bitOf_nat ha (List.mem_range.1 hk)
theorem memb_nat {a : Nat} (h0 : 0 < a) (ha : a < 65536) : memb a = ((List.range 16).filter fun k => a.testBit k).map fun (n : Nat) => (n : Int) := by
  rw [← memb0_nat ha, memb, if_neg]
  intro e
  obtain ⟨i, hi⟩ := Nat.exists_testBit_of_ne_zero (show a ≠ 0 by omega)
  have hi16 : i < 16 := by
    rcases Nat.lt_or_ge i 16 with h | h
    · exact h
    · rw [Nat.testBit_lt_two_pow (Nat.lt_of_lt_of_le ha (Nat.pow_le_pow_right (by decide) h : 2 ^ 16 ≤ 2 ^ i))] at hi; cases hi
  have : (i : Int) ∈ memb0 a 16 := by
    rw [memb0_nat ha]
    exact List.mem_map.2 ⟨i, List.mem_filter.2 ⟨List.mem_range.2 hi16, hi⟩, rfl⟩
  rw [e] at this
  cases this
theorem mem_memb {a : Nat} (h0 : 0 < a) (ha : a < 65536) (x : Int) : x ∈ memb a ↔ 0 ≤ x ∧ x < 16 ∧ a.testBit x.toNat = true := by
  rw [memb_nat h0 ha]
  simp only [List.mem_map, List.mem_filter, List.mem_range]
  constructor
  · rintro ⟨n, ⟨h1, h2⟩, rfl⟩
    exact ⟨by omega, by omega, by simpa using h2⟩
  · rintro ⟨h1, h2, h3⟩
    exact ⟨x.toNat, ⟨by omega, h3⟩, by omega⟩
theorem sorted_eq : ∀ {l k : List Int}, l.Pairwise (· < ·) → k.Pairwise (· < ·) → (∀ x, x ∈ l ↔ x ∈ k) → l = k
  | [], [], _, _, _ => rfl
  | [], y :: k, _, _, h => by have := (h y).2 List.mem_cons_self; cases this
  | x :: l, [], _, _, h => by have := (h x).1 List.mem_cons_self; cases this
  | x :: l, y :: k, hl, hk, h => by
    obtain ⟨h1, h2⟩ := List.pairwise_cons.1 hl
    obtain ⟨k1, k2⟩ := List.pairwise_cons.1 hk
    have hxy : x = y := by
      have a := (h x).1 List.mem_cons_self
      have b := (h y).2 List.mem_cons_self
      rcases List.mem_cons.1 a with a | a
      · exact a
      · rcases List.mem_cons.1 b with b | b
        · exact b.symm
        · have := h1 y b; have := k1 x a; omega
    subst hxy
    refine congrArg (x :: ·) (sorted_eq h2 k2 fun z => ⟨fun hz => ?_, fun hz => ?_⟩)
    · rcases List.mem_cons.1 ((h z).1 (List.mem_cons_of_mem _ hz)) with e | e
      · have := h1 z hz; omega
      · exact e
    · rcases List.mem_cons.1 ((h z).2 (List.mem_cons_of_mem _ hz)) with e | e
      · have := k1 z hz; omega
      · exact e
theorem bits_sorted (f : Nat → Bool) (n : Nat) : (((List.range n).filter f).map fun (n : Nat) => (n : Int)).Pairwise (· < ·) := by
  rw [List.pairwise_map]
  exact (List.Pairwise.filter _ List.pairwise_lt_range).imp (by intro a b h; omega)
theorem memb_sorted {a : Nat} (h0 : 0 < a) (ha : a < 65536) : (memb a).Pairwise (· < ·) := by rw [memb_nat h0 ha]; exact bits_sorted _ _
def clrN (A k : Nat) : Nat := (BitVec.ofNat 16 A &&& ~~~BitVec.ofNat 16 (2 ^ k)).toNat
def setN (A k : Nat) : Nat := (BitVec.ofNat 16 A ||| BitVec.ofNat 16 (2 ^ k)).toNat
theorem clrN_bit {A k i : Nat} (hi : i < 16) : (clrN A k).testBit i = (A.testBit i && !decide (k = i)) := by
  rw [clrN, BitVec.testBit_toNat, BitVec.getLsbD_and, BitVec.getLsbD_not, BitVec.getLsbD_ofNat, BitVec.getLsbD_ofNat, Nat.testBit_two_pow]
  simp [hi]
theorem setN_bit {A k i : Nat} (hi : i < 16) : (setN A k).testBit i = (A.testBit i || decide (k = i)) := by
  rw [setN, BitVec.testBit_toNat, BitVec.getLsbD_or, BitVec.getLsbD_ofNat, BitVec.getLsbD_ofNat, Nat.testBit_two_pow]
  simp [hi]
theorem keep_bits {A k : Nat} (h0 : 0 < A) (ha : A < 65536) : keepF k (memb A) = ((List.range 16).filter fun i => (clrN A k).testBit i).map fun (n : Nat) => (n : Int) := by
  rw [memb_nat h0 ha, keepF, List.filter_map, List.filter_filter]
  congr 1
  refine List.filter_congr fun i hi => ?_
  rw [clrN_bit (List.mem_range.1 hi), Bool.and_comm]
  congr 1
  show ((i : Int) != (k : Int)) = !decide (k = i)
  by_cases h : k = i
  · subst h; simp
  · simp [h]; omega
theorem keep_zero {A k : Nat} (h0 : 0 < A) (ha : A < 65536) (hz : clrN A k = 0) : keepF k (memb A) = [] := by
  rw [keep_bits h0 ha, hz]
  simp
theorem keep_memb {A k : Nat} (h0 : 0 < A) (ha : A < 65536) (hz : clrN A k ≠ 0) : keepF k (memb A) = memb (clrN A k) := by
  rw [keep_bits h0 ha, memb_nat (by omega) (BitVec.isLt _)]
theorem with_memb {A k : Nat} (h0 : 0 < A) (ha : A < 65536) (hk : k < 16) : withF k (memb A) = memb (setN A k) := by
  have hs : 0 < setN A k := by
    rcases Nat.eq_zero_or_pos (setN A k) with h | h
    · have := setN_bit (A := A) (k := k) hk
      rw [h] at this
      simp at this
    · exact h
  have hl : setN A k < 65536 := BitVec.isLt _
  have hp : (withF k (memb A)).Perm (keepF k (memb A) ++ [(k : Int)]) := List.mergeSort_perm _ _
  have hmem : ∀ x, x ∈ withF k (memb A) ↔ x ∈ memb (setN A k) := fun x => by
    rw [hp.mem_iff, List.mem_append, List.mem_singleton, keepF, List.mem_filter, mem_memb h0 ha, mem_memb hs hl]
    constructor
    · rintro (⟨⟨h1, h2, h3⟩, h4⟩ | rfl)
      · exact ⟨h1, h2, by rw [setN_bit (by omega), h3]; rfl⟩
      · exact ⟨by omega, by omega, by rw [Int.toNat_natCast, setN_bit hk]; simp⟩
    · rintro ⟨h1, h2, h3⟩
      rw [setN_bit (by omega)] at h3
      by_cases hx : x = (k : Int)
      · exact .inr hx
      · refine .inl ⟨⟨h1, h2, ?_⟩, by simpa using hx⟩
        have : ¬ k = x.toNat := by omega
        simpa [this] using h3
  have hnd : (withF k (memb A)).Nodup := by
    rw [hp.nodup_iff, List.nodup_append]
    refine ⟨(memb_sorted h0 ha).imp (by intro a b h; omega) |>.filter _, by simp, fun a ha b hb => ?_⟩
    rw [List.mem_singleton.1 hb]
    have := (List.mem_filter.1 ha).2
    simpa using this
  have hle : (withF k (memb A)).Pairwise fun a b => decide (a ≤ b) = true := List.pairwise_mergeSort (by intro a b c; simp; omega) (by intro a b; simp; omega) _
  refine sorted_eq ?_ (memb_sorted hs hl) hmem
  exact (hle.and hnd).imp (by rintro a b ⟨h1, h2⟩; simp at h1; omega)
theorem shl_k {k : Nat} (hk : k < 16) : IntKind.u16.wrap (1 * 2 ^ min (k : Int).toNat IntKind.u16.bits) = ((2 ^ k : Nat) : Int) := by
  rw [Int.toNat_natCast, show min k IntKind.u16.bits = k from Nat.min_eq_left (by show k ≤ 16; omega), Int.one_mul]
  have h2 : 2 ^ k < 65536 := Nat.lt_of_lt_of_le (Nat.pow_lt_pow_right (by decide) hk) (by decide : 2 ^ 16 ≤ 65536)
  have e : (2 : Int) ^ k = ((2 ^ k : Nat) : Int) := by simp
  rw [e]
  generalize 2 ^ k = z at *
  exact IntWalk.u16_in _ (by omega)
theorem clr_k (A k : Nat) : IntKind.u16.wrap ((BitVec.ofInt IntKind.u16.bits (A : Int) &&& ~~~BitVec.ofInt IntKind.u16.bits ((2 ^ k : Nat) : Int)).toNat : Int) = (clrN A k : Int) := by
  rw [BitVec.ofInt_natCast, BitVec.ofInt_natCast]
  have : (BitVec.ofNat IntKind.u16.bits A &&& ~~~BitVec.ofNat IntKind.u16.bits (2 ^ k)).toNat < 65536 := BitVec.isLt _
  exact IntWalk.u16_in _ (by omega)
theorem set_k (A k : Nat) : IntKind.u16.wrap ((BitVec.ofInt IntKind.u16.bits (A : Int) ||| BitVec.ofInt IntKind.u16.bits ((2 ^ k : Nat) : Int)).toNat : Int) = (setN A k : Int) := by
  rw [BitVec.ofInt_natCast, BitVec.ofInt_natCast]
  have : (BitVec.ofNat IntKind.u16.bits A ||| BitVec.ofNat IntKind.u16.bits (2 ^ k)).toNat < 65536 := BitVec.isLt _
  exact IntWalk.u16_in _ (by omega)
end Go.Pv
