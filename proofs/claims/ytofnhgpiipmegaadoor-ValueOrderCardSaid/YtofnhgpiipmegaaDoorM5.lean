/- Plain facts: Len64, Common, Mask, And, Compare, Bytes as facts on numbers. -/
import Derived.Test.YtofnhgpiipmegaaDoorM1
import Derived.Test.YtofnhgpiipmegaaDoorPVx2
import Derived.Test.YtofnhgpiipmegaaDoorPVx4
import Derived.Test.YtofnhgpiipmegaaDoorPVx5
import Derived.Test.YtofnhgpiipmegaaDoorPVx6
import Derived.Laws.Bits64
namespace Go.Proofs.YtofnhgpiipmegaaDoor.PV
open Go.RowKit Go.Proofs.YtofnhgpiipmegaaDoorW.PrintWords Go.Proofs.YtofnhgpiipmegaaDoorW.PrintLast Go.Proofs.YtofnhgpiipmegaaDoorW.PrintMore
set_option linter.unusedVariables false
set_option linter.unusedSimpArgs false
/-- How many bits a number has. -/
def bl (N : Nat) : Nat := if N = 0 then 0 else Nat.log2 N + 1
theorem bl_zero : bl 0 = 0 := rfl
theorem bl_hi (N : Nat) : N < 2 ^ bl N := by
  unfold bl
  by_cases h : N = 0
  · subst h; simp
  · rw [if_neg h]; exact Nat.lt_log2_self
theorem bl_lo {N : Nat} (h : N ≠ 0) : 2 ^ (bl N - 1) ≤ N := by
  unfold bl; rw [if_neg h]; exact Nat.log2_self_le h
theorem bl_pos {N : Nat} (h : N ≠ 0) : 1 ≤ bl N := by unfold bl; rw [if_neg h]; omega
theorem bl_eq {N k : Nat} (h0 : 1 ≤ k) (h1 : 2 ^ (k - 1) ≤ N) (h2 : N < 2 ^ k) : bl N = k := by
  have hN : N ≠ 0 := by have := Nat.two_pow_pos (k - 1); omega
  have a := bl_hi N
  have b := bl_lo hN
  have c := bl_pos hN
  have d : k - 1 < bl N := (Nat.pow_lt_pow_iff_right (by decide : 1 < 2)).mp (Nat.lt_of_le_of_lt h1 a)
  have e : bl N - 1 < k := (Nat.pow_lt_pow_iff_right (by decide : 1 < 2)).mp (Nat.lt_of_le_of_lt b h2)
  omega
theorem bl_le {N k : Nat} (h : N < 2 ^ k) : bl N ≤ k := by
  by_cases h0 : N = 0
  · subst h0; rw [bl_zero]; omega
  · have b := bl_lo h0
    have e : bl N - 1 < k := (Nat.pow_lt_pow_iff_right (by decide : 1 < 2)).mp (Nat.lt_of_le_of_lt b h)
    omega
theorem bl_top {N : Nat} (h : N ≠ 0) : N.testBit (bl N - 1) = true := by
  have a := bl_hi N
  have b := bl_lo h
  have c := bl_pos h
  rw [Nat.testBit_eq_decide_div_mod_eq]
  have e : N / 2 ^ (bl N - 1) = 1 := by
    apply Nat.div_eq_of_lt_le
    · omega
    · have : 2 ^ bl N = 2 ^ (bl N - 1) * 2 := by rw [← Nat.pow_succ]; congr 1; omega
      omega
  rw [e]; rfl
theorem bl_shift {N s : Nat} (h : N ≠ 0) : bl (N * 2 ^ s) = bl N + s := by
  have a := bl_hi N
  have b := bl_lo h
  have c := bl_pos h
  apply bl_eq (by omega)
  · rw [show bl N + s - 1 = (bl N - 1) + s from by omega, Nat.pow_add]; exact Nat.mul_le_mul_right _ b
  · rw [Nat.pow_add]; exact Nat.mul_lt_mul_of_pos_right a (Nat.two_pow_pos s)
theorem bl_div {N s : Nat} (h : 2 ^ s ≤ N) : bl N = bl (N / 2 ^ s) + s := by
  have hp := Nat.two_pow_pos s
  have hq : N / 2 ^ s ≠ 0 := by
    have := Nat.div_pos h hp; omega
  have a := bl_hi (N / 2 ^ s)
  have b := bl_lo hq
  have c := bl_pos hq
  apply bl_eq (by omega)
  · rw [show bl (N / 2 ^ s) + s - 1 = (bl (N / 2 ^ s) - 1) + s from by omega, Nat.pow_add]
    exact Nat.le_trans (Nat.mul_le_mul_right _ b) (Nat.div_mul_le_self N _)
  · rw [Nat.pow_add]; exact (Nat.div_lt_iff_lt_mul hp).mp a
/-- The table of lengths. -/
def lenTab : ByteArray := ⟨#[0, 1, 2, 2, 3, 3, 3, 3, 4, 4, 4, 4, 4, 4, 4, 4, 5, 5, 5, 5, 5, 5, 5, 5, 5, 5, 5, 5, 5, 5, 5, 5, 6, 6, 6, 6, 6, 6, 6, 6, 6, 6, 6, 6, 6, 6, 6, 6, 6, 6, 6, 6, 6, 6, 6, 6, 6, 6, 6, 6, 6, 6, 6, 6, 7, 7, 7, 7, 7, 7, 7, 7, 7, 7, 7, 7, 7, 7, 7, 7, 7, 7, 7, 7, 7, 7, 7, 7, 7, 7, 7, 7, 7, 7, 7, 7, 7, 7, 7, 7, 7, 7, 7, 7, 7, 7, 7, 7, 7, 7, 7, 7, 7, 7, 7, 7, 7, 7, 7, 7, 7, 7, 7, 7, 7, 7, 7, 7, 8, 8, 8, 8, 8, 8, 8, 8, 8, 8, 8, 8, 8, 8, 8, 8, 8, 8, 8, 8, 8, 8, 8, 8, 8, 8, 8, 8, 8, 8, 8, 8, 8, 8, 8, 8, 8, 8, 8, 8, 8, 8, 8, 8, 8, 8, 8, 8, 8, 8, 8, 8, 8, 8, 8, 8, 8, 8, 8, 8, 8, 8, 8, 8, 8, 8, 8, 8, 8, 8, 8, 8, 8, 8, 8, 8, 8, 8, 8, 8, 8, 8, 8, 8, 8, 8, 8, 8, 8, 8, 8, 8, 8, 8, 8, 8, 8, 8, 8, 8, 8, 8, 8, 8, 8, 8, 8, 8, 8, 8, 8, 8, 8, 8, 8, 8, 8, 8, 8, 8, 8, 8, 8, 8, 8, 8, 8, 8]⟩
theorem lenTab_all : ∀ i < 256, bt lenTab (i : Nat) = (bl i : Nat) := by decide +kernel
theorem lenTab_at (i : Nat) (h : i < 256) : bt lenTab ((i : Nat) : Int) = ((bl i : Nat) : Int) := lenTab_all i h
theorem len_j0 (k a s : Nat) (ha : a < 2 ^ 32) (hs : s ≤ 32) : bits_Len64.j0 (k + 1) a s = some ((s + bl a : Nat) : Int) := by
  have ha' : a < 4294967296 := ha
  unfold bits_Len64.j0
  rw [show (⟨#[0, 1, 2, 2, 3, 3, 3, 3, 4, 4, 4, 4, 4, 4, 4, 4, 5, 5, 5, 5, 5, 5, 5, 5, 5, 5, 5, 5, 5, 5, 5, 5, 6, 6, 6, 6, 6, 6, 6, 6, 6, 6, 6, 6, 6, 6, 6, 6, 6, 6, 6, 6, 6, 6, 6, 6, 6, 6, 6, 6, 6, 6, 6, 6, 7, 7, 7, 7, 7, 7, 7, 7, 7, 7, 7, 7, 7, 7, 7, 7, 7, 7, 7, 7, 7, 7, 7, 7, 7, 7, 7, 7, 7, 7, 7, 7, 7, 7, 7, 7, 7, 7, 7, 7, 7, 7, 7, 7, 7, 7, 7, 7, 7, 7, 7, 7, 7, 7, 7, 7, 7, 7, 7, 7, 7, 7, 7, 7, 8, 8, 8, 8, 8, 8, 8, 8, 8, 8, 8, 8, 8, 8, 8, 8, 8, 8, 8, 8, 8, 8, 8, 8, 8, 8, 8, 8, 8, 8, 8, 8, 8, 8, 8, 8, 8, 8, 8, 8, 8, 8, 8, 8, 8, 8, 8, 8, 8, 8, 8, 8, 8, 8, 8, 8, 8, 8, 8, 8, 8, 8, 8, 8, 8, 8, 8, 8, 8, 8, 8, 8, 8, 8, 8, 8, 8, 8, 8, 8, 8, 8, 8, 8, 8, 8, 8, 8, 8, 8, 8, 8, 8, 8, 8, 8, 8, 8, 8, 8, 8, 8, 8, 8, 8, 8, 8, 8, 8, 8, 8, 8, 8, 8, 8, 8, 8, 8, 8, 8, 8, 8, 8, 8, 8, 8, 8, 8]⟩ : ByteArray) = lenTab from rfl]
  dsimp only
  by_cases h1 : 65536 ≤ a
  · rw [if_pos (by omega)]
    by_cases h2 : 16777216 ≤ a
    · rw [if_pos (by omega), if_pos (by omega), if_pos (by omega)]
      rw [show ((a : Int) / 65536 / 256 % 256) = ((a / 2 ^ 24 : Nat) : Int) from by omega, lenTab_at _ (by omega)]
      have e := bl_div (N := a) (s := 24) (by omega)
      have b := bl_le (N := a / 2 ^ 24) (k := 8) (by omega)
      refine congrArg some ?_; unfold wrap64; omega
    · rw [if_neg (by omega), if_pos (by omega), if_pos (by omega)]
      rw [show ((a : Int) / 65536 % 256) = ((a / 2 ^ 16 : Nat) : Int) from by omega, lenTab_at _ (by omega)]
      have e := bl_div (N := a) (s := 16) (by omega)
      have b := bl_le (N := a / 2 ^ 16) (k := 8) (by omega)
      refine congrArg some ?_; unfold wrap64; omega
  · rw [if_neg (by omega)]
    by_cases h2 : 256 ≤ a
    · rw [if_pos (by omega), if_pos (by omega), if_pos (by omega)]
      rw [show ((a : Int) / 256 % 256) = ((a / 2 ^ 8 : Nat) : Int) from by omega, lenTab_at _ (by omega)]
      have e := bl_div (N := a) (s := 8) (by omega)
      have b := bl_le (N := a / 2 ^ 8) (k := 8) (by omega)
      refine congrArg some ?_; unfold wrap64; omega
    · rw [if_neg (by omega), if_pos (by omega), if_pos (by omega)]
      rw [show ((a : Int) % 256) = ((a : Nat) : Int) from by omega, lenTab_at _ (by omega)]
      have b := bl_le (N := a) (k := 8) (by omega)
      refine congrArg some ?_; unfold wrap64; omega
theorem Len64_f (k a : Nat) (ha : a < 2 ^ 64) : bits_Len64.f (k + 1) a = some ((bl a : Nat) : Int) := by
  rw [two64] at ha
  unfold bits_Len64.f
  by_cases h : 4294967296 ≤ a
  · rw [if_pos (by omega), show ((a : Int) / 4294967296) = ((a / 2 ^ 32 : Nat) : Int) from by omega, show (32 : Int) = ((32 : Nat) : Int) from rfl, len_j0 k _ 32 (by omega) (by omega)]
    have e := bl_div (N := a) (s := 32) (by omega)
    rw [e]; congr 1; omega
  · rw [if_neg (by omega), show (0 : Int) = ((0 : Nat) : Int) from rfl, len_j0 k _ 0 (by omega) (by omega)]
    congr 1; omega
theorem Lead_f (k a : Nat) (ha : a < 2 ^ 64) : bits_LeadingZeros64.f (k + 1) a = some ((64 - bl a : Nat) : Int) := by
  have b := bl_le ha
  unfold bits_LeadingZeros64.f
  rw [Len64_f k a ha, Option.bind_some, wrap64_small (by omega) (by omega)]
  congr 1; omega
theorem xor_n (a b : Nat) (ha : a < 2 ^ 64) (hb : b < 2 ^ 64) : Go.bits .xor .u64 (a : Int) (b : Int) = ((a ^^^ b : Nat) : Int) := bits_xor_u64_nat a b ha hb
theorem xor_p (M N : Nat) (hM : M < 2 ^ 128) (hN : N < 2 ^ 128) : Go.bits .xor .u64 (pH M) (pH N) = pH (M ^^^ N) ∧ Go.bits .xor .u64 (pL M) (pL N) = pL (M ^^^ N) := by
  have d : ∀ X : Nat, X < 2 ^ 128 → X / 2 ^ 64 < 2 ^ 64 := fun X hX => by rw [two128] at hX; rw [two64]; omega
  constructor
  · unfold pH
    rw [xor_n _ _ (d M hM) (d N hN)]
    refine congrArg (fun z : Nat => (z : Int)) ?_
    apply Nat.eq_of_testBit_eq; intro j
    simp only [Nat.testBit_xor, Nat.testBit_div_two_pow]
  · unfold pL
    rw [xor_n _ _ (Nat.mod_lt _ (by decide)) (Nat.mod_lt _ (by decide))]
    refine congrArg (fun z : Nat => (z : Int)) ?_
    apply Nat.eq_of_testBit_eq; intro j
    simp only [Nat.testBit_xor, Nat.testBit_mod_two_pow]
    by_cases hj : j < 64 <;> simp [hj]
theorem xor_lt {M N : Nat} {n : Nat} (hM : M < 2 ^ n) (hN : N < 2 ^ n) : M ^^^ N < 2 ^ n := Nat.xor_lt_two_pow hM hN
theorem Xor_f (a0 a1 b0 b1 : Int) (h1 : inU a0 = true) (h2 : inU a1 = true) (h3 : inU b0 = true) (h4 : inU b1 = true) : value_Xor.f a0 a1 b0 b1 = some (pH (V a0 a1 ^^^ V b0 b1), pL (V a0 a1 ^^^ V b0 b1)) := by
  have ⟨e1, e2⟩ := xor_p _ _ (V_lt h1 h2) (V_lt h3 h4)
  rw [pH_V h1 h2, pH_V h3 h4] at e1
  rw [pL_V h1 h2, pL_V h3 h4] at e2
  unfold value_Xor.f
  rw [e1, e2]
theorem And_f (M N : Nat) (hM : M < 2 ^ 128) (hN : N < 2 ^ 128) : value_And.f (pH M) (pL M) (pH N) (pL N) = some (pH (M &&& N), pL (M &&& N)) := by
  have ⟨e1, e2⟩ := and_p M N hM hN
  unfold value_And.f
  rw [e1, e2]
end Go.Proofs.YtofnhgpiipmegaaDoor.PV
