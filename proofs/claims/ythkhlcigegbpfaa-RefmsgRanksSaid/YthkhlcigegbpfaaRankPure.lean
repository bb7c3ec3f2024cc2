/- Rows of bits are ordered as their numbers. -/
import Derived.Lib.Bytealg
namespace Go.Proofs.Ythkhlcigegbpfaa
set_option linter.unusedVariables false
set_option linter.unusedSimpArgs false

def bitU (n i : Nat) : UInt8 := if n / 2 ^ i % 2 = 1 then 49 else 48
def bitsU : Nat → Nat → List UInt8
  | 0, _ => []
  | k + 1, n => bitU n k :: bitsU k n
def cmpN (a b : Nat) : Int := if a < b then -1 else if b < a then 1 else 0
theorem cmp_self : ∀ t : List UInt8, Lib.compareBytes t t = 0 := by
  intro t
  induction t with
  | nil => rfl
  | cons a t ih => simp [Lib.compareBytes, ih]
theorem cmp_bits (t : List UInt8) (a b : Nat) : ∀ k, Lib.compareBytes (bitsU k a ++ t) (bitsU k b ++ t) = cmpN (a % 2 ^ k) (b % 2 ^ k) := by
  intro k
  induction k with
  | zero => simp [bitsU, cmp_self, cmpN, Nat.mod_one]
  | succ k ih =>
    have ha : a % 2 ^ (k + 1) = a % 2 ^ k + 2 ^ k * (a / 2 ^ k % 2) := by rw [Nat.pow_succ, Nat.mod_mul]
    have hb : b % 2 ^ (k + 1) = b % 2 ^ k + 2 ^ k * (b / 2 ^ k % 2) := by rw [Nat.pow_succ, Nat.mod_mul]
    have hp : 0 < 2 ^ k := Nat.pos_of_ne_zero (by simp)
    have la := Nat.mod_lt a hp
    have lb := Nat.mod_lt b hp
    rw [ha, hb]
    show Lib.compareBytes (bitU a k :: (bitsU k a ++ t)) (bitU b k :: (bitsU k b ++ t)) = _
    unfold Lib.compareBytes
    rw [ih]
    unfold bitU
    generalize 2 ^ k = p at *
    have h2a : a / p % 2 = 0 ∨ a / p % 2 = 1 := by omega
    have h2b : b / p % 2 = 0 ∨ b / p % 2 = 1 := by omega
    have e1 : ((49 : UInt8) < 49) = False := by decide
    have e2 : ((48 : UInt8) < 49) = True := by decide
    have e3 : ((49 : UInt8) < 48) = False := by decide
    have e4 : ((48 : UInt8) < 48) = False := by decide
    rcases h2a with h | h <;> rcases h2b with h' | h' <;> rw [h, h']
    · simp [cmpN, e4]
    · simp only [Nat.zero_ne_one, if_false, if_true, Nat.mul_zero, Nat.mul_one, Nat.add_zero, e2, cmpN]
      rw [if_pos (by omega)]
    · simp only [Nat.zero_ne_one, if_false, if_true, Nat.mul_zero, Nat.mul_one, Nat.add_zero, e2, e3, cmpN]
      rw [if_neg (by omega), if_pos (by omega)]
    · simp [cmpN, e1]
end Go.Proofs.Ythkhlcigegbpfaa
