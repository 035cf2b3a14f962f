/- Plain facts on what value.worth and math/bits.Mul64 come to. -/
import Derived.Test.YtofnhgpiipmegaaDoorHAdd
namespace Go.Proofs.YtofnhgpiipmegaaDoor.PV
open Go.RowKit Go.Proofs.YtofnhgpiipmegaaDoorW.PrintWords Go.Proofs.YtofnhgpiipmegaaDoorW.PrintLast Go.Proofs.YtofnhgpiipmegaaDoorW.PrintMore
set_option linter.unusedVariables false
set_option linter.unusedSimpArgs false
/-- What a digit is worth; 99: it is none. -/
def worthI (c : Int) : Int := if 48 ≤ c ∧ c ≤ 57 then c - 48 else if 97 ≤ c ∧ c ≤ 102 then c - 87 else 99
theorem wrapU_eq (x : Int) : IntKind.u64.wrap x = x % 18446744073709551616 := rfl
theorem worth_f (c : Int) (h0 : 0 ≤ c) (h1 : c < 2147483648) : value_worth.f 1 c = some (worthI c) := by
  unfold value_worth.f worthI
  by_cases a : 48 ≤ c
  · rw [if_pos a]
    by_cases b : c ≤ 57
    · rw [decide_eq_true b, if_pos ⟨a, b⟩]
      simp only [value_worth.j0, if_true, wrapU_eq]
      congr 1; unfold wrap32; omega
    · rw [decide_eq_false b, if_neg (by omega)]
      simp only [value_worth.j0, Bool.false_eq_true, if_false, wrapU_eq]
      by_cases d : 97 ≤ c
      · rw [if_pos d]
        by_cases e : c ≤ 102
        · rw [if_pos e, if_pos ⟨d, e⟩]; congr 1; unfold wrap32; omega
        · rw [if_neg e, if_neg (by omega)]
      · rw [if_neg d, if_neg (by omega)]
  · rw [if_neg a, if_neg (by omega), if_neg (by omega)]
    simp only [value_worth.j0, Bool.false_eq_true, if_false]
    rw [if_neg (by omega)]
theorem worth_bd (c : Int) : 0 ≤ worthI c ∧ worthI c ≤ 99 := by unfold worthI; split <;> (try split) <;> omega
theorem and_mask (x : Int) (h0 : 0 ≤ x) (h1 : x < 18446744073709551616) : Go.bits .and .u64 x 4294967295 = x % 4294967296 := by
  obtain ⟨n, rfl⟩ := Int.eq_ofNat_of_zero_le h0
  have e : ((4294967295 : Int)) = ((4294967295 : Nat) : Int) := rfl
  rw [e, bits_and_u64_nat n 4294967295 (by omega) (by decide), show (4294967295 : Nat) = 2 ^ 32 - 1 from rfl, Nat.and_two_pow_sub_one_eq_mod]
  omega
/-- The product of two halves. -/
def mulHi (x y : Int) : Int := x * y / 18446744073709551616
def mulLo (x y : Int) : Int := x * y % 18446744073709551616
theorem mul_le32 {a b : Int} (ha : 0 ≤ a) (ha2 : a ≤ 4294967295) (hb : 0 ≤ b) (hb2 : b ≤ 4294967295) : 0 ≤ a * b ∧ a * b ≤ 18446744065119617025 := by
  refine ⟨Int.mul_nonneg ha hb, ?_⟩
  have := Int.mul_le_mul ha2 hb2 hb (by decide : (0 : Int) ≤ 4294967295)
  omega
theorem mul_f (x y : Int) (hx : inU x = true) (hy : inU y = true) : bits_Mul64.f x y = some (mulHi x y, mulLo x y) := by
  have x0 := inU_lo hx
  have x1 := inU_hi hx
  have y0 := inU_lo hy
  have y1 := inU_hi hy
  unfold bits_Mul64.f mulHi mulLo
  rw [and_mask y y0 y1, and_mask x x0 x1]
  simp only [wrapU_eq]
  have ix : x = x / 4294967296 * 4294967296 + x % 4294967296 := by omega
  have iy : y = y / 4294967296 * 4294967296 + y % 4294967296 := by omega
  have id : x * y = (x / 4294967296 * (y / 4294967296)) * 18446744073709551616 + (x / 4294967296 * (y % 4294967296)) * 4294967296 + (x % 4294967296 * (y / 4294967296)) * 4294967296 + x % 4294967296 * (y % 4294967296) := by
    conv => lhs; rw [ix, iy]
    generalize x / 4294967296 = a
    generalize x % 4294967296 = b
    generalize y / 4294967296 = c
    generalize y % 4294967296 = d
    grind
  obtain ⟨q1, q2⟩ := mul_le32 (a := x / 4294967296) (b := y / 4294967296) (by omega) (by omega) (by omega) (by omega)
  obtain ⟨q3, q4⟩ := mul_le32 (a := x / 4294967296) (b := y % 4294967296) (by omega) (by omega) (by omega) (by omega)
  obtain ⟨q5, q6⟩ := mul_le32 (a := x % 4294967296) (b := y / 4294967296) (by omega) (by omega) (by omega) (by omega)
  obtain ⟨q7, q8⟩ := mul_le32 (a := x % 4294967296) (b := y % 4294967296) (by omega) (by omega) (by omega) (by omega)
  rw [id]
  generalize x / 4294967296 * (y / 4294967296) = p11 at *
  generalize x / 4294967296 * (y % 4294967296) = p10 at *
  generalize x % 4294967296 * (y / 4294967296) = p01 at *
  generalize x % 4294967296 * (y % 4294967296) = p00 at *
  clear ix iy id hx hy x0 x1 y0 y1 x y
  have n1 : p00 % 18446744073709551616 = p00 := by omega
  rw [n1]
  have n2 : (p10 % 18446744073709551616 + p00 / 4294967296) % 18446744073709551616 = p10 + p00 / 4294967296 := by omega
  rw [n2]
  have m2 : 0 ≤ p10 + p00 / 4294967296 ∧ p10 + p00 / 4294967296 < 18446744073709551616 := by omega
  rw [and_mask _ m2.1 m2.2]
  have n3 : p01 % 18446744073709551616 = p01 := by omega
  have n4 : p11 % 18446744073709551616 = p11 := by omega
  rw [n3, n4]
  congr 1
  apply Prod.ext
  · show _ % _ = _ / _
    omega
  · show _ % _ = _ % _
    omega
end Go.Proofs.YtofnhgpiipmegaaDoor.PV
