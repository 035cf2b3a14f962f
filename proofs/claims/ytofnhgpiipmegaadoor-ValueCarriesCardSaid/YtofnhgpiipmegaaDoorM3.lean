/- Plain facts: the program's sums and differences. -/
import Derived.Test.YtofnhgpiipmegaaDoorM1
import Derived.Test.YtofnhgpiipmegaaDoorHAdd
namespace Go.Proofs.YtofnhgpiipmegaaDoor.PV
open Go.RowKit Go.Proofs.YtofnhgpiipmegaaDoorW.PrintWords Go.Proofs.YtofnhgpiipmegaaDoorW.PrintLast Go.Proofs.YtofnhgpiipmegaaDoorW.PrintMore
set_option linter.unusedVariables false
set_option linter.unusedSimpArgs false
theorem mod_mod_pow (X n : Nat) (h : n ≤ 128) : X % 2 ^ 128 % 2 ^ n = X % 2 ^ n := Nat.mod_mod_of_dvd X (Nat.pow_dvd_pow 2 h)
theorem mod_lt_128 (X n : Nat) (h : n ≤ 128) : X % 2 ^ n < 2 ^ 128 := Nat.lt_of_lt_of_le (Nat.mod_lt _ (Nat.two_pow_pos n)) (Nat.pow_le_pow_right (by decide) h)
theorem V_sum {a0 a1 b0 b1 : Int} (h1 : inU a0 = true) (h2 : inU a1 = true) (h3 : inU b0 = true) (h4 : inU b1 = true) :
    V (addHi a0 b0 (addCz a1 b1 0)) (addHi a1 b1 0) = (V a0 a1 + V b0 b1) % 2 ^ 128 := by
  have := inU_lo h1; have := inU_hi h1; have := inU_lo h2; have := inU_hi h2; have := inU_lo h3; have := inU_hi h3; have := inU_lo h4; have := inU_hi h4
  unfold V addHi addCz; rw [two64, two128]; omega
theorem V_dif {a0 a1 b0 b1 : Int} (h1 : inU a0 = true) (h2 : inU a1 = true) (h3 : inU b0 = true) (h4 : inU b1 = true) :
    V (subLo a0 b0 (subBw a1 b1 0)) (subLo a1 b1 0) = (V a0 a1 + (2 ^ 128 - V b0 b1)) % 2 ^ 128 := by
  have := inU_lo h1; have := inU_hi h1; have := inU_lo h2; have := inU_hi h2; have := inU_lo h3; have := inU_hi h3; have := inU_lo h4; have := inU_hi h4
  unfold V subLo subBw; rw [two64, two128]
  split <;> omega
theorem addHi_in' (x y c : Int) : inU (addHi x y c) = true := by unfold inU addHi; simp; omega
theorem subLo_in (x y c : Int) : inU (subLo x y c) = true := by unfold inU subLo; simp; omega
theorem Add_f {a0 a1 b0 b1 : Int} (h1 : inU a0 = true) (h2 : inU a1 = true) (h3 : inU b0 = true) (h4 : inU b1 = true) (n : Nat) (n1 : 1 ≤ n) (n2 : n ≤ 128) :
    value_Add.f a0 a1 b0 b1 n = some (pH ((V a0 a1 + V b0 b1) % 2 ^ n), pL ((V a0 a1 + V b0 b1) % 2 ^ n)) := by
  unfold value_Add.f
  rw [if_pos (by simp [h1, h2, h3, h4]), Cut_f _ _ (addHi_in' _ _ _) (addHi_in' _ _ _) n n1 n2, V_sum h1 h2 h3 h4, mod_mod_pow _ _ n2]
theorem Sub_f {a0 a1 b0 b1 : Int} (h1 : inU a0 = true) (h2 : inU a1 = true) (h3 : inU b0 = true) (h4 : inU b1 = true) (n : Nat) (n1 : 1 ≤ n) (n2 : n ≤ 128) :
    value_Sub.f a0 a1 b0 b1 n = some (pH ((V a0 a1 + (2 ^ 128 - V b0 b1)) % 2 ^ n), pL ((V a0 a1 + (2 ^ 128 - V b0 b1)) % 2 ^ n)) := by
  unfold value_Sub.f
  rw [if_pos (by simp [h1, h2, h3, h4]), Cut_f _ _ (subLo_in _ _ _) (subLo_in _ _ _) n n1 n2, V_dif h1 h2 h3 h4, mod_mod_pow _ _ n2]
/-- The carry into bit k. -/
def cyN (A B k : Nat) : Bool := BitVec.carry k (BitVec.ofNat 128 A) (BitVec.ofNat 128 B) false
theorem bv_bit (A k : Nat) (h : A < 2 ^ 128) : (BitVec.ofNat 128 A).getLsbD k = A.testBit k := by
  rw [BitVec.getLsbD_ofNat]
  by_cases hk : k < 128
  · simp [hk]
  · rw [test_lt h (by omega)]; simp
theorem cyN_zero (A B : Nat) : cyN A B 0 = false := by simp [cyN]
theorem cyN_succ (A B k : Nat) (hA : A < 2 ^ 128) (hB : B < 2 ^ 128) : cyN A B (k + 1) = ((A.testBit k && B.testBit k) || (A.testBit k && cyN A B k) || (B.testBit k && cyN A B k)) := by
  unfold cyN
  rw [BitVec.carry_succ, bv_bit A k hA, bv_bit B k hB]
theorem sum_bit (A B n k : Nat) (hA : A < 2 ^ 128) (hB : B < 2 ^ 128) (hn : n ≤ 128) (hk : k < n) : ((A + B) % 2 ^ n).testBit k = ((A.testBit k != B.testBit k) != cyN A B k) := by
  have h := BitVec.getLsbD_add (show k < 128 by omega) (BitVec.ofNat 128 A) (BitVec.ofNat 128 B)
  rw [bv_bit A k hA, bv_bit B k hB] at h
  have e : (BitVec.ofNat 128 A + BitVec.ofNat 128 B).getLsbD k = ((A + B) % 2 ^ n).testBit k := by
    rw [← BitVec.ofNat_add, BitVec.getLsbD_ofNat, Nat.testBit_mod_two_pow]
    simp [hk, show k < 128 by omega]
  rw [← e, h]
  unfold cyN
  cases A.testBit k <;> cases B.testBit k <;> cases BitVec.carry k (BitVec.ofNat 128 A) (BitVec.ofNat 128 B) false <;> rfl
end Go.Proofs.YtofnhgpiipmegaaDoor.PV
