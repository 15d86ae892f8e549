/- Own text of this session: a part of the proof; no condition of its own. -/
import Derived.Test.YtbbkecjljoefmaaO
import Derived.Test.YtbbkecjljoefmaaP
set_option linter.unusedVariables false
namespace Go.L21
open Go Go.Abs

def N8 (b0 b1 b2 b3 b4 b5 b6 b7 : Nat) : Nat := b0 + 256 * (b1 + 256 * (b2 + 256 * (b3 + 256 * (b4 + 256 * (b5 + 256 * (b6 + 256 * b7))))))

theorem and_split {a b c d : Nat} (ha : a < 256) (hc : c < 256) : (a + 256 * b) &&& (c + 256 * d) = (a &&& c) + 256 * (b &&& d) := by
  have e1 : ∀ p q : Nat, p + 256 * q = 2 ^ 8 * q + p := fun p q => by omega
  apply Nat.eq_of_testBit_eq
  intro i
  have hac : a &&& c < 2 ^ 8 := Nat.lt_of_le_of_lt Nat.and_le_left ha
  rw [Nat.testBit_and, e1, e1, e1, Nat.testBit_two_pow_mul_add _ (show a < 2 ^ 8 from ha), Nat.testBit_two_pow_mul_add _ (show c < 2 ^ 8 from hc), Nat.testBit_two_pow_mul_add _ hac]
  split
  · rw [Nat.testBit_and]
  · rw [Nat.testBit_and]

theorem and8 {b0 b1 b2 b3 b4 b5 b6 b7 m : Nat} (h0 : b0 < 256) (h1 : b1 < 256) (h2 : b2 < 256) (h3 : b3 < 256) (h4 : b4 < 256) (h5 : b5 < 256) (h6 : b6 < 256) (hm : m < 256) :
    N8 b0 b1 b2 b3 b4 b5 b6 b7 &&& N8 m m m m m m m m = N8 (b0 &&& m) (b1 &&& m) (b2 &&& m) (b3 &&& m) (b4 &&& m) (b5 &&& m) (b6 &&& m) (b7 &&& m) := by
  unfold N8
  rw [and_split h0 hm, and_split h1 hm, and_split h2 hm, and_split h3 hm, and_split h4 hm, and_split h5 hm, and_split h6 hm]

def g1 (b : Nat) : Nat := b % 2 + b / 2 % 2 + 4 * (b / 4 % 2 + b / 8 % 2) + 16 * (b / 16 % 2 + b / 32 % 2) + 64 * (b / 64 % 2 + b / 128 % 2)
def g2 (c : Nat) : Nat := c % 4 + c / 4 % 4 + 16 * (c / 16 % 4 + c / 64)
def g3 (c : Nat) : Nat := c % 16 + c / 16
def bsum (b : Nat) : Nat := b % 2 + b / 2 % 2 + b / 4 % 2 + b / 8 % 2 + b / 16 % 2 + b / 32 % 2 + b / 64 % 2 + b / 128 % 2

theorem byte1 : ∀ b < 256, ∀ c < 2, ((b / 2 + 128 * c) &&& 85) + (b &&& 85) = g1 b := by decide +kernel
theorem byte2 : ∀ b < 256, ∀ c < 4, ((b / 4 + 64 * c) &&& 51) + (b &&& 51) = g2 b := by decide +kernel
theorem byte3 : ∀ b < 256, b % 16 < 7 → b / 16 < 7 → ∀ c < 7, ((b / 16 + 16 * c) + b) &&& 15 = g3 b := by decide +kernel
theorem g1_lt : ∀ b < 256, g1 b < 256 ∧ g2 (g1 b) < 256 ∧ g2 (g1 b) % 16 < 7 ∧ g2 (g1 b) / 16 < 7 ∧ g3 (g2 (g1 b)) = bsum b ∧ bsum b < 9 := by decide +kernel

theorem ones_eq (n : Nat) : ones n = n % 2 + ones (n / 2) := by
  cases n with
  | zero => simp [ones]
  | succ n => rw [ones]

theorem ones8 (b q : Nat) (h : b < 256) : ones (b + 256 * q) = bsum b + ones q := by
  rw [ones_eq, ones_eq ((b + 256 * q) / 2), ones_eq ((b + 256 * q) / 2 / 2), ones_eq ((b + 256 * q) / 2 / 2 / 2), ones_eq ((b + 256 * q) / 2 / 2 / 2 / 2), ones_eq ((b + 256 * q) / 2 / 2 / 2 / 2 / 2),
    ones_eq ((b + 256 * q) / 2 / 2 / 2 / 2 / 2 / 2), ones_eq ((b + 256 * q) / 2 / 2 / 2 / 2 / 2 / 2 / 2)]
  have e : (b + 256 * q) / 2 / 2 / 2 / 2 / 2 / 2 / 2 / 2 = q := by omega
  rw [e]
  unfold bsum
  omega

theorem exN8 (x : Nat) (h : x < 2 ^ 64) : ∃ b0 b1 b2 b3 b4 b5 b6 b7, x = N8 b0 b1 b2 b3 b4 b5 b6 b7 ∧ b0 < 256 ∧ b1 < 256 ∧ b2 < 256 ∧ b3 < 256 ∧ b4 < 256 ∧ b5 < 256 ∧ b6 < 256 ∧ b7 < 256 := by
  refine ⟨x % 256, x / 256 % 256, x / 256 / 256 % 256, x / 256 / 256 / 256 % 256, x / 256 / 256 / 256 / 256 % 256, x / 256 / 256 / 256 / 256 / 256 % 256, x / 256 / 256 / 256 / 256 / 256 / 256 % 256, x / 256 / 256 / 256 / 256 / 256 / 256 / 256, ?_⟩
  unfold N8
  omega

theorem sh_eq (x : Nat) (k : Nat) (hk : k ≤ 64) : sh (x : Int) k = ((x / 2 ^ k : Nat) : Int) := by
  unfold sh
  have hmin : Min.min (Int.toNat (k : Int)) (IntKind.bits .u64) = k := by
    show Nat.min _ 64 = _
    exact Nat.min_eq_left (by simpa using hk)
  rw [hmin, Int.fdiv_eq_ediv_of_nonneg _ (by exact Int.le_of_lt (Int.pow_pos (by decide)))]
  simp

theorem and_nat {a b : Nat} (ha : a < 2 ^ 64) (hb : b < 2 ^ 64) : bits .and .u64 (a : Int) (b : Int) = ((a &&& b : Nat) : Int) := by
  rw [and_u64 (by omega) (by omega) (by omega) (by omega)]; simp

theorem wu_nat {a : Nat} (ha : a < 2 ^ 64) : IntKind.wrap .u64 (a : Int) = (a : Int) := wu64 _ (by omega) (by omega)

theorem o1_nat (x : Nat) (h : x < 2 ^ 64) (h2 : (x / 2 &&& 6148914691236517205) + (x &&& 6148914691236517205) < 2 ^ 64) : o1 (x : Int) = (((x / 2 &&& 6148914691236517205) + (x &&& 6148914691236517205) : Nat) : Int) := by
  unfold o1
  rw [sh_eq x 1 (by omega), show (6148914691236517205 : Int) = ((6148914691236517205 : Nat) : Int) from rfl, and_nat (by omega) (by decide), and_nat h (by decide)]
  exact wu_nat h2
theorem o2_nat (x : Nat) (h : x < 2 ^ 64) (h2 : (x / 4 &&& 3689348814741910323) + (x &&& 3689348814741910323) < 2 ^ 64) : o2 (x : Int) = (((x / 4 &&& 3689348814741910323) + (x &&& 3689348814741910323) : Nat) : Int) := by
  unfold o2
  rw [sh_eq x 2 (by omega), show (3689348814741910323 : Int) = ((3689348814741910323 : Nat) : Int) from rfl, and_nat (by omega) (by decide), and_nat h (by decide)]
  exact wu_nat h2
theorem o3_nat (x : Nat) (h2 : x / 16 + x < 2 ^ 64) : o3 (x : Int) = ((x / 16 + x &&& 1085102592571150095 : Nat) : Int) := by
  unfold o3
  rw [sh_eq x 4 (by omega), show (1085102592571150095 : Int) = ((1085102592571150095 : Nat) : Int) from rfl, show ((x / 2 ^ 4 : Nat) : Int) + (x : Int) = ((x / 16 + x : Nat) : Int) by simp, wu_nat h2, and_nat h2 (by decide)]
theorem o4_nat (k : Nat) (hk : k ≤ 64) (x : Nat) (h : x + x / 2 ^ k < 2 ^ 64) : o4 k (x : Int) = ((x + x / 2 ^ k : Nat) : Int) := by
  unfold o4
  rw [sh_eq x k hk, ← Int.natCast_add]
  exact wu_nat h

theorem and_i64 {a b : Nat} (ha : a < 2 ^ 63) (hb : b < 2 ^ 63) : bits .and .i64 (a : Int) (b : Int) = ((a &&& b : Nat) : Int) := by
  have h1 : (BitVec.ofInt 64 (a : Int)).toNat = a := by
    rw [BitVec.ofInt_natCast, BitVec.toNat_ofNat]; exact Nat.mod_eq_of_lt (by omega)
  have h2 : (BitVec.ofInt 64 (b : Int)).toNat = b := by
    rw [BitVec.ofInt_natCast, BitVec.toNat_ofNat]; exact Nat.mod_eq_of_lt (by omega)
  have h3 : a &&& b ≤ a := Nat.and_le_left
  show IntKind.i64.wrap ((BitVec.ofInt 64 (a : Int) &&& BitVec.ofInt 64 (b : Int)).toNat : Int) = _
  rw [BitVec.toNat_and, h1, h2]
  exact wi64 _ (by omega) (by omega)

theorem lt8 {a b c d e f g k : Nat} (_ : a < 256) (_ : b < 256) (_ : c < 256) (_ : d < 256) (_ : e < 256) (_ : f < 256) (_ : g < 256) (_ : k < 256) : N8 a b c d e f g k < 2 ^ 64 := by
  unfold N8; omega
theorem add8 {x0 x1 x2 x3 x4 x5 x6 x7 y0 y1 y2 y3 y4 y5 y6 y7 : Nat} : N8 x0 x1 x2 x3 x4 x5 x6 x7 + N8 y0 y1 y2 y3 y4 y5 y6 y7 = N8 (x0 + y0) (x1 + y1) (x2 + y2) (x3 + y3) (x4 + y4) (x5 + y5) (x6 + y6) (x7 + y7) := by
  unfold N8; omega
theorem digst1 {b0 b1 b2 b3 b4 b5 b6 b7 : Nat} (h0 : b0 < 256) (h1 : b1 < 256) (h2 : b2 < 256) (h3 : b3 < 256) (h4 : b4 < 256) (h5 : b5 < 256) (h6 : b6 < 256) (h7 : b7 < 256) : N8 b0 b1 b2 b3 b4 b5 b6 b7 / 2 = N8 (b0 / 2 + 128 * (b1 % 2)) (b1 / 2 + 128 * (b2 % 2)) (b2 / 2 + 128 * (b3 % 2)) (b3 / 2 + 128 * (b4 % 2)) (b4 / 2 + 128 * (b5 % 2)) (b5 / 2 + 128 * (b6 % 2)) (b6 / 2 + 128 * (b7 % 2)) (b7 / 2 + 128 * 0) := by
  unfold N8; omega
theorem st1 {b0 b1 b2 b3 b4 b5 b6 b7 : Nat} (h0 : b0 < 256) (h1 : b1 < 256) (h2 : b2 < 256) (h3 : b3 < 256) (h4 : b4 < 256) (h5 : b5 < 256) (h6 : b6 < 256) (h7 : b7 < 256) : (N8 b0 b1 b2 b3 b4 b5 b6 b7 / 2 &&& 6148914691236517205) + (N8 b0 b1 b2 b3 b4 b5 b6 b7 &&& 6148914691236517205) = N8 (g1 b0) (g1 b1) (g1 b2) (g1 b3) (g1 b4) (g1 b5) (g1 b6) (g1 b7) := by
  have hd := digst1 h0 h1 h2 h3 h4 h5 h6 h7
  have M : (6148914691236517205 : Nat) = N8 85 85 85 85 85 85 85 85 := rfl
  rw [hd, M, and8 (by omega) (by omega) (by omega) (by omega) (by omega) (by omega) (by omega) (by decide), and8 h0 h1 h2 h3 h4 h5 h6 (by decide), add8, ← byte1 b0 h0 (b1 % 2) (Nat.mod_lt _ (by decide)), ← byte1 b1 h1 (b2 % 2) (Nat.mod_lt _ (by decide)), ← byte1 b2 h2 (b3 % 2) (Nat.mod_lt _ (by decide)), ← byte1 b3 h3 (b4 % 2) (Nat.mod_lt _ (by decide)), ← byte1 b4 h4 (b5 % 2) (Nat.mod_lt _ (by decide)), ← byte1 b5 h5 (b6 % 2) (Nat.mod_lt _ (by decide)), ← byte1 b6 h6 (b7 % 2) (Nat.mod_lt _ (by decide)), ← byte1 b7 h7 0 (by decide)]
theorem digst2 {b0 b1 b2 b3 b4 b5 b6 b7 : Nat} (h0 : b0 < 256) (h1 : b1 < 256) (h2 : b2 < 256) (h3 : b3 < 256) (h4 : b4 < 256) (h5 : b5 < 256) (h6 : b6 < 256) (h7 : b7 < 256) : N8 b0 b1 b2 b3 b4 b5 b6 b7 / 4 = N8 (b0 / 4 + 64 * (b1 % 4)) (b1 / 4 + 64 * (b2 % 4)) (b2 / 4 + 64 * (b3 % 4)) (b3 / 4 + 64 * (b4 % 4)) (b4 / 4 + 64 * (b5 % 4)) (b5 / 4 + 64 * (b6 % 4)) (b6 / 4 + 64 * (b7 % 4)) (b7 / 4 + 64 * 0) := by
  unfold N8; omega
theorem st2 {b0 b1 b2 b3 b4 b5 b6 b7 : Nat} (h0 : b0 < 256) (h1 : b1 < 256) (h2 : b2 < 256) (h3 : b3 < 256) (h4 : b4 < 256) (h5 : b5 < 256) (h6 : b6 < 256) (h7 : b7 < 256) : (N8 b0 b1 b2 b3 b4 b5 b6 b7 / 4 &&& 3689348814741910323) + (N8 b0 b1 b2 b3 b4 b5 b6 b7 &&& 3689348814741910323) = N8 (g2 b0) (g2 b1) (g2 b2) (g2 b3) (g2 b4) (g2 b5) (g2 b6) (g2 b7) := by
  have hd := digst2 h0 h1 h2 h3 h4 h5 h6 h7
  have M : (3689348814741910323 : Nat) = N8 51 51 51 51 51 51 51 51 := rfl
  rw [hd, M, and8 (by omega) (by omega) (by omega) (by omega) (by omega) (by omega) (by omega) (by decide), and8 h0 h1 h2 h3 h4 h5 h6 (by decide), add8, ← byte2 b0 h0 (b1 % 4) (Nat.mod_lt _ (by decide)), ← byte2 b1 h1 (b2 % 4) (Nat.mod_lt _ (by decide)), ← byte2 b2 h2 (b3 % 4) (Nat.mod_lt _ (by decide)), ← byte2 b3 h3 (b4 % 4) (Nat.mod_lt _ (by decide)), ← byte2 b4 h4 (b5 % 4) (Nat.mod_lt _ (by decide)), ← byte2 b5 h5 (b6 % 4) (Nat.mod_lt _ (by decide)), ← byte2 b6 h6 (b7 % 4) (Nat.mod_lt _ (by decide)), ← byte2 b7 h7 0 (by decide)]
theorem digst3 {b0 b1 b2 b3 b4 b5 b6 b7 : Nat} (h0 : b0 < 256) (h1 : b1 < 256) (h2 : b2 < 256) (h3 : b3 < 256) (h4 : b4 < 256) (h5 : b5 < 256) (h6 : b6 < 256) (h7 : b7 < 256) : N8 b0 b1 b2 b3 b4 b5 b6 b7 / 16 = N8 (b0 / 16 + 16 * (b1 % 16)) (b1 / 16 + 16 * (b2 % 16)) (b2 / 16 + 16 * (b3 % 16)) (b3 / 16 + 16 * (b4 % 16)) (b4 / 16 + 16 * (b5 % 16)) (b5 / 16 + 16 * (b6 % 16)) (b6 / 16 + 16 * (b7 % 16)) (b7 / 16 + 16 * 0) := by
  unfold N8; omega
theorem st3 {b0 b1 b2 b3 b4 b5 b6 b7 : Nat} (h0 : b0 < 256 ∧ b0 % 16 < 7 ∧ b0 / 16 < 7) (h1 : b1 < 256 ∧ b1 % 16 < 7 ∧ b1 / 16 < 7) (h2 : b2 < 256 ∧ b2 % 16 < 7 ∧ b2 / 16 < 7) (h3 : b3 < 256 ∧ b3 % 16 < 7 ∧ b3 / 16 < 7) (h4 : b4 < 256 ∧ b4 % 16 < 7 ∧ b4 / 16 < 7) (h5 : b5 < 256 ∧ b5 % 16 < 7 ∧ b5 / 16 < 7) (h6 : b6 < 256 ∧ b6 % 16 < 7 ∧ b6 / 16 < 7) (h7 : b7 < 256 ∧ b7 % 16 < 7 ∧ b7 / 16 < 7) : N8 b0 b1 b2 b3 b4 b5 b6 b7 / 16 + N8 b0 b1 b2 b3 b4 b5 b6 b7 < 2 ^ 64 ∧ (N8 b0 b1 b2 b3 b4 b5 b6 b7 / 16 + N8 b0 b1 b2 b3 b4 b5 b6 b7 &&& 1085102592571150095) = N8 (g3 b0) (g3 b1) (g3 b2) (g3 b3) (g3 b4) (g3 b5) (g3 b6) (g3 b7) := by
  have hd : N8 b0 b1 b2 b3 b4 b5 b6 b7 / 16 + N8 b0 b1 b2 b3 b4 b5 b6 b7 = N8 (b0 / 16 + 16 * (b1 % 16) + b0) (b1 / 16 + 16 * (b2 % 16) + b1) (b2 / 16 + 16 * (b3 % 16) + b2) (b3 / 16 + 16 * (b4 % 16) + b3) (b4 / 16 + 16 * (b5 % 16) + b4) (b5 / 16 + 16 * (b6 % 16) + b5) (b6 / 16 + 16 * (b7 % 16) + b6) (b7 / 16 + 16 * 0 + b7) := by
    rw [digst3 h0.1 h1.1 h2.1 h3.1 h4.1 h5.1 h6.1 h7.1, add8]
  have M : (1085102592571150095 : Nat) = N8 15 15 15 15 15 15 15 15 := rfl
  have q : ∀ {a b : Nat}, a < 256 ∧ a % 16 < 7 ∧ a / 16 < 7 → b < 256 ∧ b % 16 < 7 ∧ b / 16 < 7 → a / 16 + 16 * (b % 16) + a < 256 := by intro a b _ _; omega
  have q' : ∀ {a : Nat}, a < 256 ∧ a % 16 < 7 ∧ a / 16 < 7 → a / 16 + 16 * 0 + a < 256 := by intro a _; omega
  rw [hd]
  refine ⟨lt8 (q h0 h1) (q h1 h2) (q h2 h3) (q h3 h4) (q h4 h5) (q h5 h6) (q h6 h7) (q' h7), ?_⟩
  rw [M, and8 (q h0 h1) (q h1 h2) (q h2 h3) (q h3 h4) (q h4 h5) (q h5 h6) (q h6 h7) (by decide),
    byte3 b0 h0.1 h0.2.1 h0.2.2 (b1 % 16) h1.2.1, byte3 b1 h1.1 h1.2.1 h1.2.2 (b2 % 16) h2.2.1, byte3 b2 h2.1 h2.2.1 h2.2.2 (b3 % 16) h3.2.1, byte3 b3 h3.1 h3.2.1 h3.2.2 (b4 % 16) h4.2.1, byte3 b4 h4.1 h4.2.1 h4.2.2 (b5 % 16) h5.2.1, byte3 b5 h5.1 h5.2.1 h5.2.2 (b6 % 16) h6.2.1, byte3 b6 h6.1 h6.2.1 h6.2.2 (b7 % 16) h7.2.1, byte3 b7 h7.1 h7.2.1 h7.2.2 0 (by decide)]
theorem st4 {e0 e1 e2 e3 e4 e5 e6 e7 : Nat} (h0 : e0 < 9) (h1 : e1 < 9) (h2 : e2 < 9) (h3 : e3 < 9) (h4 : e4 < 9) (h5 : e5 < 9) (h6 : e6 < 9) (h7 : e7 < 9) : N8 e0 e1 e2 e3 e4 e5 e6 e7 + N8 e0 e1 e2 e3 e4 e5 e6 e7 / 2 ^ 8 = N8 (e0 + e1) (e1 + e2) (e2 + e3) (e3 + e4) (e4 + e5) (e5 + e6) (e6 + e7) e7 := by unfold N8; omega
theorem st5 {e0 e1 e2 e3 e4 e5 e6 e7 : Nat} (h0 : e0 < 18) (h1 : e1 < 18) (h2 : e2 < 18) (h3 : e3 < 18) (h4 : e4 < 18) (h5 : e5 < 18) (h6 : e6 < 18) (h7 : e7 < 18) : N8 e0 e1 e2 e3 e4 e5 e6 e7 + N8 e0 e1 e2 e3 e4 e5 e6 e7 / 2 ^ 16 = N8 (e0 + e2) (e1 + e3) (e2 + e4) (e3 + e5) (e4 + e6) (e5 + e7) e6 e7 := by unfold N8; omega
theorem st6 {e0 e1 e2 e3 e4 e5 e6 e7 : Nat} (h0 : e0 < 36) (h1 : e1 < 36) (h2 : e2 < 36) (h3 : e3 < 36) (h4 : e4 < 36) (h5 : e5 < 36) (h6 : e6 < 36) (h7 : e7 < 36) : N8 e0 e1 e2 e3 e4 e5 e6 e7 + N8 e0 e1 e2 e3 e4 e5 e6 e7 / 2 ^ 32 = N8 (e0 + e4) (e1 + e5) (e2 + e6) (e3 + e7) e4 e5 e6 e7 := by unfold N8; omega
theorem st7 {e0 e1 e2 e3 e4 e5 e6 e7 : Nat} (h0 : e0 < 73) (h1 : e1 < 73) (h2 : e2 < 73) (h3 : e3 < 73) (h4 : e4 < 73) (h5 : e5 < 73) (h6 : e6 < 73) (h7 : e7 < 73) : N8 e0 e1 e2 e3 e4 e5 e6 e7 < 2 ^ 63 ∧ N8 e0 e1 e2 e3 e4 e5 e6 e7 % 2 ^ 7 = e0 := by unfold N8; omega

theorem plain16 (x : Int) (N : Nat) (h : pre16 x = true) : F16 N x = some (v16 x, ()) := by
  simp only [pre16, wfD, wf_u64] at h
  obtain ⟨n, rfl⟩ := Int.eq_ofNat_of_zero_le h.1
  have hn : n < 2 ^ 64 := by omega
  clear h
  obtain ⟨b0, b1, b2, b3, b4, b5, b6, b7, hx, h0, h1, h2, h3, h4, h5, h6, h7⟩ := exN8 n hn
  have on : ones n = bsum b0 + (bsum b1 + (bsum b2 + (bsum b3 + (bsum b4 + (bsum b5 + (bsum b6 + bsum b7)))))) := by
    rw [hx]; unfold N8
    rw [ones8 _ _ h0, ones8 _ _ h1, ones8 _ _ h2, ones8 _ _ h3, ones8 _ _ h4, ones8 _ _ h5, ones8 _ _ h6]
    have := ones8 b7 0 h7
    rw [Nat.mul_zero, Nat.add_zero] at this
    rw [this, show ones 0 = 0 by rw [ones], Nat.add_zero]
  unfold F16 v16
  congr 2
  rw [Int.toNat_natCast, on]
  clear on
  subst hx
  have q0 := g1_lt b0 h0
  have q1 := g1_lt b1 h1
  have q2 := g1_lt b2 h2
  have q3 := g1_lt b3 h3
  have q4 := g1_lt b4 h4
  have q5 := g1_lt b5 h5
  have q6 := g1_lt b6 h6
  have q7 := g1_lt b7 h7
  have s1 := st1 h0 h1 h2 h3 h4 h5 h6 h7
  have l1 := lt8 q0.1 q1.1 q2.1 q3.1 q4.1 q5.1 q6.1 q7.1
  rw [o1_nat _ hn (by rw [s1]; exact l1), s1]
  have s2 := st2 q0.1 q1.1 q2.1 q3.1 q4.1 q5.1 q6.1 q7.1
  have l2 := lt8 q0.2.1 q1.2.1 q2.2.1 q3.2.1 q4.2.1 q5.2.1 q6.2.1 q7.2.1
  rw [o2_nat _ l1 (by rw [s2]; exact l2), s2]
  have s3 := st3 ⟨q0.2.1, q0.2.2.1, q0.2.2.2.1⟩ ⟨q1.2.1, q1.2.2.1, q1.2.2.2.1⟩ ⟨q2.2.1, q2.2.2.1, q2.2.2.2.1⟩ ⟨q3.2.1, q3.2.2.1, q3.2.2.2.1⟩ ⟨q4.2.1, q4.2.2.1, q4.2.2.2.1⟩ ⟨q5.2.1, q5.2.2.1, q5.2.2.2.1⟩ ⟨q6.2.1, q6.2.2.1, q6.2.2.2.1⟩ ⟨q7.2.1, q7.2.2.1, q7.2.2.2.1⟩
  rw [o3_nat _ s3.1, s3.2, q0.2.2.2.2.1, q1.2.2.2.2.1, q2.2.2.2.2.1, q3.2.2.2.2.1, q4.2.2.2.2.1, q5.2.2.2.2.1, q6.2.2.2.2.1, q7.2.2.2.2.1]
  have r : ∀ {a b : Nat}, a < 9 → b < 9 → a + b < 18 := by intro a b _ _; omega
  have r' : ∀ {a b : Nat}, a < 18 → b < 18 → a + b < 36 := by intro a b _ _; omega
  have r'' : ∀ {a b : Nat}, a < 36 → b < 36 → a + b < 73 := by intro a b _ _; omega
  have e0 := q0.2.2.2.2.2
  have e1 := q1.2.2.2.2.2
  have e2 := q2.2.2.2.2.2
  have e3 := q3.2.2.2.2.2
  have e4 := q4.2.2.2.2.2
  have e5 := q5.2.2.2.2.2
  have e6 := q6.2.2.2.2.2
  have e7 := q7.2.2.2.2.2
  have f6 : bsum b7 < 18 := Nat.lt_of_lt_of_le e7 (by decide)
  have s4 := st4 e0 e1 e2 e3 e4 e5 e6 e7
  have s5 := st5 (r e0 e1) (r e1 e2) (r e2 e3) (r e3 e4) (r e4 e5) (r e5 e6) (r e6 e7) f6
  have t6 : bsum b6 + bsum b7 < 36 := Nat.lt_of_lt_of_le (r e6 e7) (by decide)
  have t7 : bsum b7 < 36 := Nat.lt_of_lt_of_le e7 (by decide)
  have s6 := st6 (r' (r e0 e1) (r e2 e3)) (r' (r e1 e2) (r e3 e4)) (r' (r e2 e3) (r e4 e5)) (r' (r e3 e4) (r e5 e6)) (r' (r e4 e5) (r e6 e7)) (r' (r e5 e6) f6) t6 t7
  have m : ∀ {a : Nat}, a < 36 → a < 256 := by intro a _; omega
  have m' : ∀ {a : Nat}, a < 18 → a < 256 := by intro a _; omega
  have m'' : ∀ {a : Nat}, a < 73 → a < 256 := by intro a _; omega
  rw [o4_nat 8 (by decide) _ (by rw [s4]; exact lt8 (m' (r e0 e1)) (m' (r e1 e2)) (m' (r e2 e3)) (m' (r e3 e4)) (m' (r e4 e5)) (m' (r e5 e6)) (m' (r e6 e7)) (m' f6)), s4,
    o4_nat 16 (by decide) _ (by rw [s5]; exact lt8 (m (r' (r e0 e1) (r e2 e3))) (m (r' (r e1 e2) (r e3 e4))) (m (r' (r e2 e3) (r e4 e5))) (m (r' (r e3 e4) (r e5 e6))) (m (r' (r e4 e5) (r e6 e7))) (m (r' (r e5 e6) f6)) (m t6) (m t7)), s5]
  have n0 := r'' (r' (r e0 e1) (r e2 e3)) (r' (r e4 e5) (r e6 e7))
  have n1 := r'' (r' (r e1 e2) (r e3 e4)) (r' (r e5 e6) f6)
  have n2 := r'' (r' (r e2 e3) (r e4 e5)) t6
  have n3 := r'' (r' (r e3 e4) (r e5 e6)) t7
  have w : ∀ {a : Nat}, a < 36 → a < 73 := by intro a _; omega
  rw [o4_nat 32 (by decide) _ (by rw [s6]; exact lt8 (m'' n0) (m'' n1) (m'' n2) (m'' n3) (m (r' (r e4 e5) (r e6 e7))) (m (r' (r e5 e6) f6)) (m t6) (m t7)), s6]
  have s7 := st7 n0 n1 n2 n3 (w (r' (r e4 e5) (r e6 e7))) (w (r' (r e5 e6) f6)) (w t6) (w t7)
  have hl := s7.1
  rw [wi64 _ (by omega) (by omega), show (127 : Int) = ((127 : Nat) : Int) from rfl, and_i64 hl (by decide), show (127 : Nat) = 2 ^ 7 - 1 from rfl, Nat.and_two_pow_sub_one_eq_mod, s7.2]
  congr 1
  omega
end Go.L21
