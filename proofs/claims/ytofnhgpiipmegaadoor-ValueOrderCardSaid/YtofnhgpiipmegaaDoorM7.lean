/- The plain law of ValueOrder: the first differing bit, the bytes and the comparison tell the same order. -/
import Derived.Test.YtofnhgpiipmegaaDoorM2
import Derived.Test.YtofnhgpiipmegaaDoorM6
import Derived.Test.YtofnhgpiipmegaaDoorHOrder
namespace Go.Proofs.YtofnhgpiipmegaaDoor.PV
open Go.RowKit Go.Proofs.YtofnhgpiipmegaaDoorW.PrintWords Go.Proofs.YtofnhgpiipmegaaDoorW.PrintLast Go.Proofs.YtofnhgpiipmegaaDoorW.PrintMore
set_option linter.unusedVariables false
set_option linter.unusedSimpArgs false
theorem awake_at' (k : Nat) (h : 40 ≤ k) : turnoutlaw01_awake.f k = some true := at_rounds (g := turnoutlaw01_awake.f) (fun k => turnoutlaw01_awake.mono k) h awake_f
theorem p_beq {M N : Nat} (hM : M < 2 ^ 128) (hN : N < 2 ^ 128) : (pH M == pH N && (pL M == pL N)) = decide (M = N) := by
  rw [Bool.eq_iff_iff]
  simp only [Bool.and_eq_true, beq_iff_eq, decide_eq_true_eq]
  constructor
  · rintro ⟨e1, e2⟩
    exact p_inj hM hN e1 e2
  · rintro rfl; exact ⟨rfl, rfl⟩
theorem xor_eq_zero {X Y : Nat} (h : X ^^^ Y = 0) : X = Y := by
  apply Nat.eq_of_testBit_eq; intro j
  have := congrArg (fun z => z.testBit j) h
  simp only [Nat.testBit_xor, Nat.zero_testBit] at this
  revert this; cases X.testBit j <;> cases Y.testBit j <;> simp
theorem mod_xor (A B n : Nat) : (A ^^^ B) % 2 ^ n = A % 2 ^ n ^^^ B % 2 ^ n := by
  apply Nat.eq_of_testBit_eq; intro j
  simp only [Nat.testBit_mod_two_pow, Nat.testBit_xor]
  by_cases hj : j < n <;> simp [hj]
theorem and_top (X Y c L : Nat) (h : X ^^^ Y < 2 ^ L) : X &&& ((2 ^ c - 1) * 2 ^ L) = Y &&& ((2 ^ c - 1) * 2 ^ L) := by
  apply Nat.eq_of_testBit_eq; intro j
  simp only [Nat.testBit_and, Nat.testBit_mul_two_pow]
  by_cases hj : L ≤ j
  · have := test_lt h hj
    rw [Nat.testBit_xor] at this
    revert this; cases X.testBit j <;> cases Y.testBit j <;> simp
  · simp [hj]
theorem lt_of_top {X Y : Nat} (i : Nat) (hx : X.testBit i = false) (hy : Y.testBit i = true) (h : ∀ j, i < j → X.testBit j = Y.testBit j) : X < Y := by
  have e : X / 2 ^ (i + 1) = Y / 2 ^ (i + 1) := by
    apply Nat.eq_of_testBit_eq; intro j
    simp only [Nat.testBit_div_two_pow]
    exact h _ (by omega)
  rw [Nat.testBit_eq_decide_div_mod_eq] at hx hy
  have hx' := of_decide_eq_false hx
  have hy' := of_decide_eq_true hy
  rw [Nat.pow_succ, ← Nat.div_div_eq_div_mul, ← Nat.div_div_eq_div_mul] at e
  have : X / 2 ^ i < Y / 2 ^ i := by omega
  exact Nat.lt_of_not_le fun hle => by have := Nat.div_le_div_right (c := 2 ^ i) hle; omega
/-- The highest bit in which two numbers differ tells which is the greater. -/
theorem top_lt {X Y : Nat} (h : X ≠ Y) : X.testBit (bl (X ^^^ Y) - 1) = !Y.testBit (bl (X ^^^ Y) - 1) ∧ cmpN X Y = (if X.testBit (bl (X ^^^ Y) - 1) = true then 1 else -1) := by
  have hz : X ^^^ Y ≠ 0 := fun e => h (xor_eq_zero e)
  have ht := bl_top hz
  rw [Nat.testBit_xor] at ht
  have same : ∀ j, bl (X ^^^ Y) - 1 < j → X.testBit j = Y.testBit j := by
    intro j hj
    have := test_lt (bl_hi (X ^^^ Y)) (show bl (X ^^^ Y) ≤ j by omega)
    rw [Nat.testBit_xor] at this
    revert this; cases X.testBit j <;> cases Y.testBit j <;> simp
  cases hx : X.testBit (bl (X ^^^ Y) - 1)
  · have hy : Y.testBit (bl (X ^^^ Y) - 1) = true := by rw [hx] at ht; simpa using ht
    have hl := lt_of_top _ hx hy same
    refine ⟨by rw [hy]; rfl, ?_⟩
    unfold cmpN
    rw [if_pos hl]; rfl
  · have hy : Y.testBit (bl (X ^^^ Y) - 1) = false := by rw [hx] at ht; simpa using ht
    have hl := lt_of_top _ hy hx (fun j hj => (same j hj).symm)
    refine ⟨by rw [hy]; rfl, ?_⟩
    unfold cmpN
    rw [if_neg (by omega), if_pos hl]; rfl
theorem cmpN_self (X : Nat) : cmpN X X = 0 := by unfold cmpN; rw [if_neg (by omega), if_neg (by omega)]
theorem cmpN_swap (X Y : Nat) : cmpN Y X = -cmpN X Y := by unfold cmpN; repeat' split <;> omega
theorem cmpN_range (X Y : Nat) : -1 ≤ cmpN X Y ∧ cmpN X Y ≤ 1 := by unfold cmpN; repeat' split <;> omega
/-- The law's end: what was found in the bits is told by the comparison and by the bytes. -/
theorem order_end (k n X Y : Nat) (n1 : 1 ≤ n) (n2 : n ≤ 128) (hX : X < 2 ^ n) (hY : Y < 2 ^ n) (hk : 20 ≤ k) :
    turnoutlaw01_ValueOrder.j3 (k + 2) n true (cmpN X Y) (pH X) (pL X) (pH Y) (pL Y) = some true := by
  have l2 := Nat.pow_le_pow_right (n := 2) (by decide) n2
  have X128 : X < 2 ^ 128 := Nat.lt_of_lt_of_le hX l2
  have Y128 : Y < 2 ^ 128 := Nat.lt_of_lt_of_le hY l2
  have l3 : 2 ^ n ≤ 256 ^ ((n + 7) / 8) := by
    rw [show (256 : Nat) = 2 ^ 8 from rfl, ← Nat.pow_mul]
    exact Nat.pow_le_pow_right (by decide) (by omega)
  have X256 := Nat.lt_of_lt_of_le hX l3
  have Y256 := Nat.lt_of_lt_of_le hY l3
  have bx := Bytes_f _ _ (pH_in X128) (pL_in X) n (k + 1) n1 n2 (by rw [V_p X128]; exact hX) (by omega)
  have by' := Bytes_f _ _ (pH_in Y128) (pL_in Y) n (k + 1) n1 n2 (by rw [V_p Y128]; exact hY) (by omega)
  rw [V_p X128] at bx
  rw [V_p Y128] at by'
  have c1 := Compare_f (k - 3) X Y X128 Y128
  have c2 := Compare_f (k - 3) Y X Y128 X128
  rw [show k - 3 + 3 = k from by omega] at c1 c2
  have hr := cmpN_range X Y
  simp only [turnoutlaw01_ValueOrder.j3]
  rw [bx, Option.bind_some]
  dsimp only
  rw [by', Option.bind_some]
  dsimp only
  rw [less_str _ _ _ X256 Y256]
  simp only [turnoutlaw01_ValueOrder.j4]
  rw [less_str _ _ _ Y256 X256, c1, c2, cmpN_swap X Y, wrap64_small (by omega) (by omega)]
  simp only [Option.bind_some, if_true]
  by_cases h : X < Y
  · rw [if_pos (decide_eq_true h), if_neg (by simp; omega)]
    unfold cmpN
    rw [if_pos h]; rfl
  · rw [if_neg (by simpa using h)]
    by_cases h2 : Y < X
    · rw [if_pos (decide_eq_true h2)]
      unfold cmpN
      rw [if_neg h, if_pos h2]; rfl
    · rw [if_neg (by simpa using h2)]
      unfold cmpN
      rw [if_neg h, if_neg h2]; rfl
/-- The plain law. -/
theorem ValueOrder_pure (a0 a1 b0 b1 w : Int) (h1 : inU a0 = true) (h2 : inU a1 = true) (h3 : inU b0 = true) (h4 : inU b1 = true) : ∃ k, turnoutlaw01_ValueOrder.f k a0 a1 b0 b1 w = some true := by
  refine ⟨100, ?_⟩
  unfold turnoutlaw01_ValueOrder.f
  rw [awake_at' 100 (by decide)]
  simp only [Option.bind_some]
  by_cases hw : 1 ≤ w ∧ w ≤ 128
  · obtain ⟨n, rfl⟩ : ∃ n : Nat, w = n := ⟨w.toNat, by omega⟩
    have n1 : 1 ≤ n := by omega
    have n2 : n ≤ 128 := by omega
    rw [if_neg (by omega), decide_eq_false (by omega : ¬ (n : Int) > 128)]
    simp only [turnoutlaw01_ValueOrder.j0, Bool.false_eq_true, if_false]
    rw [Cut_f a0 a1 h1 h2 n n1 n2, Option.bind_some]
    dsimp only
    rw [Cut_f b0 b1 h3 h4 n n1 n2, Option.bind_some]
    dsimp only
    rw [Common_f h1 h2 h3 h4 98 n n1 n2, Option.bind_some, mod_xor]
    have hX := Nat.mod_lt (V a0 a1) (Nat.two_pow_pos n)
    have hY := Nat.mod_lt (V b0 b1) (Nat.two_pow_pos n)
    generalize V a0 a1 % 2 ^ n = X at hX
    generalize V b0 b1 % 2 ^ n = Y at hY
    have l2 := Nat.pow_le_pow_right (n := 2) (by decide) n2
    have X128 : X < 2 ^ 128 := Nat.lt_of_lt_of_le hX l2
    have Y128 : Y < 2 ^ 128 := Nat.lt_of_lt_of_le hY l2
    have hx := bl_le (xor_lt hX hY)
    rw [if_neg (by omega), if_neg (by omega), p_beq X128 Y128]
    have e0 : ((((n - bl (X ^^^ Y) : Nat) : Int) == (n : Int)) != decide (X = Y)) = false := by
      by_cases h : X = Y
      · subst h; simp [bl_zero]
      · have hz : X ^^^ Y ≠ 0 := fun e => h (xor_eq_zero e)
        have := bl_pos hz
        have h5 : ¬ (((n - bl (X ^^^ Y) : Nat) : Int) = (n : Int)) := by omega
        rw [beq_eq_false_iff_ne.mpr h5, decide_eq_false h]; rfl
    rw [e0]
    simp only [turnoutlaw01_ValueOrder.j1, Bool.false_eq_true, if_false]
    have hm : (2 ^ (n - bl (X ^^^ Y)) - 1) * 2 ^ (n - (n - bl (X ^^^ Y))) < 2 ^ 128 := by
      have e : 2 ^ n = 2 ^ (n - bl (X ^^^ Y)) * 2 ^ (n - (n - bl (X ^^^ Y))) := by rw [← Nat.pow_add]; congr 1; omega
      have e3 : (2 ^ (n - bl (X ^^^ Y)) - 1) * 2 ^ (n - (n - bl (X ^^^ Y))) < 2 ^ (n - bl (X ^^^ Y)) * 2 ^ (n - (n - bl (X ^^^ Y))) := Nat.mul_lt_mul_of_pos_right (by have := Nat.two_pow_pos (n - bl (X ^^^ Y)); omega) (Nat.two_pow_pos _)
      omega
    have ha := and_top X Y (n - bl (X ^^^ Y)) (n - (n - bl (X ^^^ Y))) (by rw [show n - (n - bl (X ^^^ Y)) = bl (X ^^^ Y) from by omega]; exact bl_hi _)
    rw [Mask_f 97 n (n - bl (X ^^^ Y)) n1 n2 (by omega), Option.bind_some]
    dsimp only
    rw [if_pos rfl]
    generalize (2 ^ (n - bl (X ^^^ Y)) - 1) * 2 ^ (n - (n - bl (X ^^^ Y))) = M at hm ha
    rw [And_f X M X128 hm, Option.bind_some]
    dsimp only
    rw [And_f Y M Y128 hm, Option.bind_some, ha]
    dsimp only
    simp only [beq_self_eq_true, Bool.not_true, Bool.or_self]
    simp only [turnoutlaw01_ValueOrder.j2, Bool.false_eq_true, if_false]
    by_cases h : X = Y
    · subst h
      rw [if_neg (by rw [Nat.xor_self, bl_zero]; omega)]
      have := order_end 95 n X X n1 n2 hX hX (by decide)
      rw [cmpN_self] at this
      exact this
    · have hz : X ^^^ Y ≠ 0 := fun e => h (xor_eq_zero e)
      have hp := bl_pos hz
      have ⟨t1, t2⟩ := top_lt h
      have this := order_end 95 n X Y n1 n2 hX hY (by decide)
      rw [if_pos (by omega), Bit_f _ _ (pH_in X128) (pL_in X) n (n - bl (X ^^^ Y)) n2 (by omega), Option.bind_some, Bit_f _ _ (pH_in Y128) (pL_in Y) n (n - bl (X ^^^ Y)) n2 (by omega), Option.bind_some, V_p X128, V_p Y128, show n - 1 - (n - bl (X ^^^ Y)) = bl (X ^^^ Y) - 1 from by omega, t1]
      rw [t2, t1] at this
      cases hy : Y.testBit (bl (X ^^^ Y) - 1) <;> rw [hy] at this <;> simpa using this
  · by_cases h0 : w < 1
    · rw [if_pos h0]
      simp only [turnoutlaw01_ValueOrder.j0, if_true]
    · rw [if_neg h0, decide_eq_true (by omega : w > 128)]
      simp only [turnoutlaw01_ValueOrder.j0, if_true]
end Go.Proofs.YtofnhgpiipmegaaDoor.PV
