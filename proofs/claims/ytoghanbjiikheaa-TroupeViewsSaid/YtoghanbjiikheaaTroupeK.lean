/- Functions of the program, by value. No condition. -/
import Derived.Test.YtoghanbjiikheaaP1
namespace Go.Pv
def pc : Nat → Nat → Nat
  | 0, _ => 0
  | n + 1, x => x % 2 + pc n (x / 2)
theorem and_mod2 (a b : Nat) : (a &&& b) % 2 = (a % 2) * (b % 2) := by
  have h := Nat.testBit_and a b 0
  simp only [Nat.testBit_zero] at h
  have ha := Nat.mod_two_eq_zero_or_one a
  have hb := Nat.mod_two_eq_zero_or_one b
  have hc := Nat.mod_two_eq_zero_or_one (a &&& b)
  rcases ha with ha | ha <;> rcases hb with hb | hb <;> rcases hc with hc | hc <;> simp_all
theorem and_div2 (a b : Nat) : (a &&& b) / 2 = (a / 2) &&& (b / 2) := by
  apply Nat.eq_of_testBit_eq
  intro i
  simp only [Nat.testBit_and, Nat.testBit_div_two]
theorem pc_clear : ∀ (n x : Nat), 0 < x → x < 2 ^ n → pc n (x &&& (x - 1)) + 1 = pc n x
  | 0, x, h0, h => by omega
  | n + 1, x, h0, h => by
    simp only [pc, and_mod2, and_div2]
    rcases Nat.mod_two_eq_zero_or_one x with hx | hx
    · have e : (x - 1) / 2 = x / 2 - 1 := by omega
      have := pc_clear n (x / 2) (by omega) (by omega)
      rw [e, hx]; omega
    · have e : (x - 1) / 2 = x / 2 := by omega
      have e2 : (x - 1) % 2 = 0 := by omega
      rw [e, e2, hx, Nat.and_self]; omega
end Go.Pv
