/- Functions of the program, by value. No condition. -/
import Derived.Test.YtoghanbjiikheaaTroupeF
namespace Go.Pv
open Go.Proofs
set_option maxRecDepth 100000

theorem bitOf_nat {a k : Nat} (ha : a < 65536) (hk : k < 16) : bitOf a k = a.testBit k := by
  have h1 : (a : Int).fdiv (2 ^ min (k : Int).toNat 16) = ((a / 2 ^ k : Nat) : Int) := by
    rw [show min (k : Int).toNat 16 = k by omega, show (2 : Int) ^ k = ((2 ^ k : Nat) : Int) by simp]
    exact (Int.ofNat_fdiv a (2 ^ k)).symm
  have h2 : a / 2 ^ k < 65536 := Nat.lt_of_le_of_lt (Nat.div_le_self _ _) ha
  unfold bitOf
  rw [h1]
  have h3 := and16 h2 (show 1 < 65536 by omega)
  rw [show ((1 : Nat) : Int) = 1 from rfl] at h3
  rw [h3, Nat.testBit_eq_decide_div_mod_eq, Nat.and_one_is_mod]
  rcases Nat.mod_two_eq_zero_or_one (a / 2 ^ k) with h | h <;> rw [h] <;> rfl

theorem pc_range : ∀ (n x : Nat), ((List.range n).filter fun k => x.testBit k).length = pc n x
  | 0, _ => rfl
  | n + 1, x => by
    rw [List.range_succ_eq_map, pc, ← pc_range n (x / 2)]
    simp only [List.filter_cons, List.filter_map, Nat.testBit_zero]
    have : (fun k => x.testBit k) ∘ Nat.succ = fun k => (x / 2).testBit k := by
      funext k; simp [Function.comp, Nat.testBit_succ]
    rw [this]
    rcases Nat.mod_two_eq_zero_or_one x with h | h <;> simp [h]; omega

theorem memb0_nat {a : Nat} (ha : a < 65536) : memb0 a 16 = ((List.range 16).filter fun k => a.testBit k).map fun (n : Nat) => (n : Int) := by
  unfold memb0
  congr 1
  apply List.filter_congr
  intro k hk
  exact bitOf_nat ha (List.mem_range.1 hk)
theorem pc_pos {n x : Nat} (h0 : 0 < x) (h : x < 2 ^ n) : 0 < pc n x := by have := pc_clear n x h0 h; omega
theorem memb_nat {a : Nat} (h0 : 0 < a) (ha : a < 65536) : memb a = ((List.range 16).filter fun k => a.testBit k).map fun (n : Nat) => (n : Int) := by
  rw [← memb0_nat ha, memb, if_neg]
  intro e
  have := congrArg List.length e
  rw [memb0_nat ha, List.length_map, pc_range] at this
  have := pc_pos (n := 16) h0 ha
  simp at *
  omega
theorem memb_len {a : Nat} (h0 : 0 < a) (ha : a < 65536) : (memb a).length = pc 16 a := by
  rw [memb_nat h0 ha, List.length_map, pc_range]
theorem mem_memb {a : Nat} (h0 : 0 < a) (ha : a < 65536) (x : Int) : x ∈ memb a ↔ 0 ≤ x ∧ x < 16 ∧ a.testBit x.toNat = true := by
  rw [memb_nat h0 ha]
  simp only [List.mem_map, List.mem_filter, List.mem_range]
  constructor
  · rintro ⟨n, ⟨h1, h2⟩, rfl⟩
    exact ⟨by omega, by omega, by simpa using h2⟩
  · rintro ⟨h1, h2, h3⟩
    exact ⟨x.toNat, ⟨by omega, h3⟩, by omega⟩
theorem cnt_memb {a b : Nat} (a0 : 0 < a) (ha : a < 65536) (b0 : 0 < b) (hb : b < 65536) : cnt (memb a) (memb b) = pc 16 (a &&& b) := by
  rw [← pc_range, cnt, memb_nat a0 ha, List.filter_map, List.length_map, List.filter_filter]
  congr 1
  apply List.filter_congr
  intro k hk
  have hk := List.mem_range.1 hk
  rw [Nat.testBit_and, Bool.and_comm]
  congr 1
  simp only [Function.comp]
  rw [Bool.eq_iff_iff, decide_eq_true_iff, mem_memb b0 hb]
  simp
  omega

end Go.Pv
