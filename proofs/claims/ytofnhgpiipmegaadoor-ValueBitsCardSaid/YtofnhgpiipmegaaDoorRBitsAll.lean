/- ValueBits: the row and its card. (Several texts in one: Plain facts: what the program's functions on values come to, as functions on numbers below 2^128. The head of all statements of layer 1 answers true. Plain facts: the program's sums and differences. Plain facts: Len64, Common, Mask, And, Compare, Bytes as facts on numbers. Plain facts: Common, Mask, Compare, Bytes; the order of equally long bytes is that of the numbers. Plain facts: the reference's lists of bits are those of the numbers. The plain law of ValueBits: each function on values answers what the reference answers, at every width and number.) -/
import Derived.Test.YtofnhgpiipmegaaDoorHDiv
import Derived.Test.YtofnhgpiipmegaaDoorPVx16
import Derived.Test.YtofnhgpiipmegaaDoorHAdd
import Derived.Test.YtofnhgpiipmegaaDoorPVx2
import Derived.Test.YtofnhgpiipmegaaDoorPVx4
import Derived.Test.YtofnhgpiipmegaaDoorPVx5
import Derived.Test.YtofnhgpiipmegaaDoorPVx6
import Derived.Laws.Bits64
import Derived.Test.YtofnhgpiipmegaaDoorHRefD
import Derived.Test.YtofnhgpiipmegaaDoorB1
import Derived.Test.YtofnhgpiipmegaaDoorB2
import Derived.Test.YtofnhgpiipmegaaDoorHBits
import Derived.Test.YtofnhgpiipmegaaDoorHLaid
namespace Go.Proofs.YtofnhgpiipmegaaDoor.PV
open Go.RowKit Go.Proofs.YtofnhgpiipmegaaDoorW.PrintWords Go.Proofs.YtofnhgpiipmegaaDoorW.PrintLast Go.Proofs.YtofnhgpiipmegaaDoorW.PrintMore
set_option linter.unusedVariables false
set_option linter.unusedSimpArgs false
/-- The halves of a number below 2^128. -/
def pH (N : Nat) : Int := ((N / 2 ^ 64 : Nat) : Int)
def pL (N : Nat) : Int := ((N % 2 ^ 64 : Nat) : Int)
/-- The number of two halves. -/
def V (hi lo : Int) : Nat := 2 ^ 64 * hi.toNat + lo.toNat
theorem two64 : (2 : Nat) ^ 64 = 18446744073709551616 := by decide
theorem two64i : (2 : Int) ^ 64 = 18446744073709551616 := by decide
theorem two128 : (2 : Nat) ^ 128 = 340282366920938463463374607431768211456 := by decide
theorem V_lt {hi lo : Int} (h : inU hi = true) (l : inU lo = true) : V hi lo < 2 ^ 128 := by
  have := inU_lo h; have := inU_hi h; have := inU_lo l; have := inU_hi l
  unfold V; rw [two64, two128]; omega
theorem pH_V {hi lo : Int} (h : inU hi = true) (l : inU lo = true) : pH (V hi lo) = hi := by
  have := inU_lo h; have := inU_hi h; have := inU_lo l; have := inU_hi l
  unfold pH V; rw [two64]; omega
theorem pL_V {hi lo : Int} (h : inU hi = true) (l : inU lo = true) : pL (V hi lo) = lo := by
  have := inU_lo h; have := inU_hi h; have := inU_lo l; have := inU_hi l
  unfold pL V; rw [two64]; omega
theorem V_p {N : Nat} (h : N < 2 ^ 128) : V (pH N) (pL N) = N := by
  unfold pH pL V; rw [two64]; omega
theorem pH_in {N : Nat} (h : N < 2 ^ 128) : inU (pH N) = true := by
  rw [two128] at h; unfold pH inU; rw [two64]; simp; omega
theorem pL_in (N : Nat) : inU (pL N) = true := by
  unfold pL inU; rw [two64]; simp; omega
/-- Two equal halves are one number. -/
theorem p_inj {M N : Nat} (hM : M < 2 ^ 128) (hN : N < 2 ^ 128) (h : pH M = pH N) (l : pL M = pL N) : M = N := by
  rw [← V_p hM, ← V_p hN, h, l]
theorem testBit_V (a b j : Nat) (hb : b < 2 ^ 64) : (2 ^ 64 * a + b).testBit j = if j < 64 then b.testBit j else a.testBit (j - 64) := Nat.testBit_two_pow_mul_add a hb j
theorem nat_of {x : Int} (h : inU x = true) : ∃ n : Nat, x = n ∧ n < 2 ^ 64 := ⟨x.toNat, by have := inU_lo h; omega, by have := inU_lo h; have := inU_hi h; rw [two64]; omega⟩
theorem V_nat (a b : Nat) : V (a : Int) (b : Int) = 2 ^ 64 * a + b := by simp [V]
theorem shl_n (a n : Nat) (hn : n ≤ 64) : shl .u64 (a : Int) (n : Int) = ((a <<< n % 2 ^ 64 : Nat) : Int) := by
  rw [shl_u _ _ hn, Nat.shiftLeft_eq, two64]; simp
theorem shr_n (a n : Nat) (hn : n ≤ 64) : shr .u64 (a : Int) (n : Int) = ((a >>> n : Nat) : Int) := by
  rw [shr_u _ _ hn, Nat.shiftRight_eq_div_pow]; simp
theorem or_n (a b : Nat) (ha : a < 2 ^ 64) (hb : b < 2 ^ 64) : Go.bits .or .u64 (a : Int) (b : Int) = ((a ||| b : Nat) : Int) := bits_or_u64_nat a b ha hb
theorem and_n (a b : Nat) (ha : a < 2 ^ 64) (hb : b < 2 ^ 64) : Go.bits .and .u64 (a : Int) (b : Int) = ((a &&& b : Nat) : Int) := bits_and_u64_nat a b ha hb
theorem lt_of_test {N w : Nat} (h : ∀ j, w ≤ j → N.testBit j = false) : N < 2 ^ w := Nat.lt_pow_two_of_testBit N h
theorem test_lt {N w j : Nat} (h : N < 2 ^ w) (hj : w ≤ j) : N.testBit j = false := Nat.testBit_lt_two_pow (Nat.lt_of_lt_of_le h (Nat.pow_le_pow_right (by decide) hj))
theorem wrap64_small {x : Int} (h0 : -1000 ≤ x) (h1 : x ≤ 1000) : wrap64 x = x := by unfold wrap64; omega
theorem right_f (hi lo : Int) (h : inU hi = true) (l : inU lo = true) (n : Nat) (hn : n ≤ 128) : value_right.f hi lo n = some (pH (V hi lo >>> n), pL (V hi lo >>> n)) := by
  obtain ⟨a, rfl, ha⟩ := nat_of h
  obtain ⟨b, rfl, hb⟩ := nat_of l
  unfold value_right.f
  rw [V_nat]
  by_cases h64 : 64 ≤ n
  · rw [if_pos (by omega), wrap64_small (by omega) (by omega), show ((n : Int) - 64) = ((n - 64 : Nat) : Int) from by omega, if_pos (by omega), shr_n a _ (by omega)]
    refine congrArg some (Prod.ext ?_ ?_)
    · unfold pH
      show (0 : Int) = _
      have : (2 ^ 64 * a + b) >>> n / 2 ^ 64 = 0 := by
        apply Nat.eq_of_testBit_eq; intro j
        rw [Nat.testBit_div_two_pow, Nat.testBit_shiftRight, testBit_V _ _ _ hb, if_neg (by omega), Nat.zero_testBit]
        exact test_lt ha (by omega)
      rw [this]; rfl
    · show ((a >>> (n - 64) : Nat) : Int) = pL _
      unfold pL
      refine congrArg Int.ofNat ?_
      apply Nat.eq_of_testBit_eq; intro j
      rw [Nat.testBit_shiftRight, Nat.testBit_mod_two_pow, Nat.testBit_shiftRight, testBit_V _ _ _ hb, if_neg (by omega)]
      by_cases hj : j < 64
      · have h9 : n - 64 + j = n + j - 64 := by omega
        simp [hj, h9]
      · simp [hj]; exact test_lt ha (by omega)
  · rw [if_neg (by omega), if_pos (by omega), wrap64_small (by omega) (by omega), show (64 - (n : Int)) = ((64 - n : Nat) : Int) from by omega, if_pos (by omega), shr_n a _ (by omega), shr_n b _ (by omega), shl_n a _ (by omega),
      or_n _ _ (lt_of_test fun j hj => by rw [Nat.testBit_shiftRight]; exact test_lt hb (by omega)) (Nat.mod_lt _ (by decide))]
    refine congrArg some (Prod.ext ?_ ?_)
    · unfold pH
      show ((a >>> n : Nat) : Int) = _
      refine congrArg (fun z : Nat => (z : Int)) ?_
      apply Nat.eq_of_testBit_eq; intro j
      rw [Nat.testBit_shiftRight, Nat.testBit_div_two_pow, Nat.testBit_shiftRight, testBit_V _ _ _ hb, if_neg (by omega)]
      congr 1
    · show ((b >>> n ||| a <<< (64 - n) % 2 ^ 64 : Nat) : Int) = pL _
      unfold pL
      refine congrArg Int.ofNat ?_
      apply Nat.eq_of_testBit_eq; intro j
      rw [Nat.testBit_or, Nat.testBit_shiftRight, Nat.testBit_mod_two_pow, Nat.testBit_shiftLeft, Nat.testBit_mod_two_pow, Nat.testBit_shiftRight, testBit_V _ _ _ hb]
      by_cases hj : j < 64
      · by_cases hj2 : n + j < 64
        · have : ¬ 64 - n ≤ j := by omega
          simp [hj, hj2, this]
        · have h3 : 64 - n ≤ j := by omega
          have h4 : b.testBit (n + j) = false := test_lt hb (by omega)
          have h5 : j - (64 - n) = n + j - 64 := by omega
          simp [hj, hj2, h3, h4, h5]
      · have h4 : b.testBit (n + j) = false := test_lt hb (by omega)
        simp [hj, h4]
theorem left_f (hi lo : Int) (h : inU hi = true) (l : inU lo = true) (n : Nat) (hn : n ≤ 128) : value_left.f hi lo n = some (pH ((V hi lo <<< n) % 2 ^ 128), pL ((V hi lo <<< n) % 2 ^ 128)) := by
  obtain ⟨a, rfl, ha⟩ := nat_of h
  obtain ⟨b, rfl, hb⟩ := nat_of l
  unfold value_left.f
  rw [V_nat]
  by_cases h64 : 64 ≤ n
  · rw [if_pos (by omega), wrap64_small (by omega) (by omega), show ((n : Int) - 64) = ((n - 64 : Nat) : Int) from by omega, if_pos (by omega), shl_n b _ (by omega)]
    refine congrArg some (Prod.ext ?_ ?_)
    · unfold pH
      show ((b <<< (n - 64) % 2 ^ 64 : Nat) : Int) = _
      refine congrArg (fun z : Nat => (z : Int)) ?_
      apply Nat.eq_of_testBit_eq; intro j
      rw [Nat.testBit_mod_two_pow, Nat.testBit_shiftLeft, Nat.testBit_div_two_pow, Nat.testBit_mod_two_pow, Nat.testBit_shiftLeft, testBit_V _ _ _ hb]
      by_cases hj : j < 64
      · have h1 : 64 + j < 128 := by omega
        by_cases h2 : n - 64 ≤ j
        · have h3 : n ≤ 64 + j := by omega
          have h4 : 64 + j - n < 64 := by omega
          have h5 : j - (n - 64) = 64 + j - n := by omega
          have h6 : n ≤ j + 64 := by omega
          have h7 : j + 64 - n < 64 := by omega
          have h8 : j + 64 < 128 := by omega
          have h9 : j - (n - 64) = j + 64 - n := by omega
          simp [hj, h1, h2, h3, h4, h6, h7, h8, h9]
        · have h3 : ¬ n ≤ 64 + j := by omega
          have h6 : ¬ n ≤ j + 64 := by omega
          simp [hj, h1, h2, h3, h6]
      · have h1 : ¬ 64 + j < 128 := by omega
        have h2 : ¬ j + 64 < 128 := by omega
        simp [hj, h1, h2]
    · unfold pL
      show (0 : Int) = _
      have : (2 ^ 64 * a + b) <<< n % 2 ^ 128 % 2 ^ 64 = 0 := by
        apply Nat.eq_of_testBit_eq; intro j
        rw [Nat.testBit_mod_two_pow, Nat.testBit_mod_two_pow, Nat.testBit_shiftLeft, Nat.zero_testBit]
        by_cases hj : j < 64
        · have h3 : ¬ n ≤ j := by omega
          simp [h3]
        · simp [hj]
      rw [this]; rfl
  · rw [if_neg (by omega), if_pos (by omega), wrap64_small (by omega) (by omega), show (64 - (n : Int)) = ((64 - n : Nat) : Int) from by omega, if_pos (by omega), shl_n a _ (by omega), shr_n b _ (by omega), shl_n b _ (by omega),
      or_n _ _ (Nat.mod_lt _ (by decide)) (lt_of_test fun j hj => by rw [Nat.testBit_shiftRight]; exact test_lt hb (by omega))]
    refine congrArg some (Prod.ext ?_ ?_)
    · unfold pH
      show ((a <<< n % 2 ^ 64 ||| b >>> (64 - n) : Nat) : Int) = _
      refine congrArg (fun z : Nat => (z : Int)) ?_
      apply Nat.eq_of_testBit_eq; intro j
      rw [Nat.testBit_or, Nat.testBit_mod_two_pow, Nat.testBit_shiftLeft, Nat.testBit_shiftRight, Nat.testBit_div_two_pow, Nat.testBit_mod_two_pow, Nat.testBit_shiftLeft, testBit_V _ _ _ hb]
      by_cases hj : j < 64
      · have h8 : j + 64 < 128 := by omega
        have h6 : n ≤ j + 64 := by omega
        by_cases h2 : n ≤ j
        · have h4 : b.testBit (64 - n + j) = false := test_lt hb (by omega)
          have h7 : ¬ j + 64 - n < 64 := by omega
          have h9 : j + 64 - n - 64 = j - n := by omega
          simp [hj, h2, h4, h8, h6, h7, h9]
        · have h7 : j + 64 - n < 64 := by omega
          have h9 : 64 - n + j = j + 64 - n := by omega
          simp [hj, h2, h8, h6, h7, h9]
      · have h8 : ¬ j + 64 < 128 := by omega
        have h4 : b.testBit (64 - n + j) = false := test_lt hb (by omega)
        simp [hj, h4, h8]
    · show ((b <<< n % 2 ^ 64 : Nat) : Int) = pL _
      unfold pL
      refine congrArg Int.ofNat ?_
      apply Nat.eq_of_testBit_eq; intro j
      rw [Nat.testBit_mod_two_pow, Nat.testBit_shiftLeft, Nat.testBit_mod_two_pow, Nat.testBit_mod_two_pow, Nat.testBit_shiftLeft, testBit_V _ _ _ hb]
      by_cases hj : j < 64
      · have h8 : j < 128 := by omega
        have h7 : j - n < 64 := by omega
        simp [hj, h8, h7]
      · simp [hj]
theorem isWidth_yes {w : Int} (h : 1 ≤ w ∧ w ≤ 128) : value_isWidth.f w = some true := by
  unfold value_isWidth.f; rw [if_pos h.1]; simp [h.2]
theorem isWidth_no {w : Int} (h : ¬ (1 ≤ w ∧ w ≤ 128)) : value_isWidth.f w = some false := by
  unfold value_isWidth.f
  split
  · have : ¬ w ≤ 128 := by omega
    simp [this]
  · rfl
theorem ones_f (n : Nat) (hn : n ≤ 128) : value_ones.f n = some (pH (2 ^ n - 1), pL (2 ^ n - 1)) := by
  have e : V 18446744073709551615 18446744073709551615 = 2 ^ 128 - 1 := by rw [two128]; decide
  have hu : inU 18446744073709551615 = true := by decide
  unfold value_ones.f
  rw [wrap64_small (by omega) (by omega), show (128 - (n : Int)) = ((128 - n : Nat) : Int) from by omega, right_f _ _ hu hu _ (by omega), e]
  have e2 : (2 ^ 128 - 1) >>> (128 - n) = 2 ^ n - 1 := by
    apply Nat.eq_of_testBit_eq; intro j
    rw [Nat.testBit_shiftRight, Nat.testBit_two_pow_sub_one, Nat.testBit_two_pow_sub_one]
    apply decide_eq_decide.2; omega
  rw [e2]; rfl
/-- Halves of a bitwise and. -/
theorem and_p (M N : Nat) (hM : M < 2 ^ 128) (hN : N < 2 ^ 128) : Go.bits .and .u64 (pH M) (pH N) = pH (M &&& N) ∧ Go.bits .and .u64 (pL M) (pL N) = pL (M &&& N) := by
  have d : ∀ X : Nat, X < 2 ^ 128 → X / 2 ^ 64 < 2 ^ 64 := fun X hX => by rw [two128] at hX; rw [two64]; omega
  constructor
  · unfold pH
    rw [and_n _ _ (d M hM) (d N hN)]
    refine congrArg (fun z : Nat => (z : Int)) ?_
    apply Nat.eq_of_testBit_eq; intro j
    simp only [Nat.testBit_and, Nat.testBit_div_two_pow]
  · unfold pL
    rw [and_n _ _ (Nat.mod_lt _ (by decide)) (Nat.mod_lt _ (by decide))]
    refine congrArg (fun z : Nat => (z : Int)) ?_
    apply Nat.eq_of_testBit_eq; intro j
    simp only [Nat.testBit_and, Nat.testBit_mod_two_pow]
    by_cases hj : j < 64 <;> simp [hj]
theorem Cut_f (hi lo : Int) (h : inU hi = true) (l : inU lo = true) (n : Nat) (h1 : 1 ≤ n) (h2 : n ≤ 128) : value_Cut.f hi lo n = some (pH (V hi lo % 2 ^ n), pL (V hi lo % 2 ^ n)) := by
  unfold value_Cut.f
  rw [isWidth_yes (by omega)]
  simp only [Option.bind_some, if_true]
  rw [ones_f n h2]
  simp only [Option.bind_some]
  unfold value_And.f
  simp only [Option.bind_some]
  have hV := V_lt h l
  have hO : 2 ^ n - 1 < 2 ^ 128 := lt_of_test fun j hj => by rw [Nat.testBit_two_pow_sub_one]; simp; omega
  obtain ⟨e1, e2⟩ := and_p (V hi lo) (2 ^ n - 1) hV hO
  rw [pH_V h l] at e1
  rw [pL_V h l] at e2
  rw [e1, e2, Nat.and_two_pow_sub_one_eq_mod]
theorem Fits_f (hi lo : Int) (h : inU hi = true) (l : inU lo = true) (n : Nat) (h1 : 1 ≤ n) (h2 : n ≤ 128) : value_Fits.f hi lo n = some (decide (V hi lo < 2 ^ n)) := by
  unfold value_Fits.f
  rw [isWidth_yes (by omega)]
  simp only [Option.bind_some, if_true]
  rw [right_f hi lo h l n h2]
  simp only [Option.bind_some]
  have hV := V_lt h l
  have hS : V hi lo >>> n < 2 ^ 128 := by rw [Nat.shiftRight_eq_div_pow]; exact Nat.lt_of_le_of_lt (Nat.div_le_self _ _) hV
  congr 1
  rw [Bool.eq_iff_iff]
  simp only [Bool.and_eq_true, beq_iff_eq, decide_eq_true_eq]
  constructor
  · rintro ⟨e1, e2⟩
    have : V hi lo >>> n = 0 := p_inj hS (by decide) (by rw [e1]; rfl) (by rw [e2]; rfl)
    rw [Nat.shiftRight_eq_div_pow] at this
    exact (Nat.div_eq_zero_iff_lt (Nat.two_pow_pos n)).1 this
  · intro e
    have : V hi lo >>> n = 0 := by rw [Nat.shiftRight_eq_div_pow]; exact Nat.div_eq_of_lt e
    rw [this]; exact ⟨rfl, rfl⟩
theorem Bit_f (hi lo : Int) (h : inU hi = true) (l : inU lo = true) (n i : Nat) (h2 : n ≤ 128) (hi' : i < n) : value_Bit.f hi lo n i = some ((V hi lo).testBit (n - 1 - i)) := by
  unfold value_Bit.f
  rw [isWidth_yes (by omega)]
  simp only [Option.bind_some, if_true]
  rw [if_neg (by omega), if_neg (by omega), wrap64_small (x := (n : Int) - 1) (by omega) (by omega), wrap64_small (by omega) (by omega), show ((n : Int) - 1 - (i : Int)) = ((n - 1 - i : Nat) : Int) from by omega, right_f hi lo h l _ (by omega)]
  simp only [Option.bind_some]
  congr 1
  have hS : V hi lo >>> (n - 1 - i) < 2 ^ 128 := by rw [Nat.shiftRight_eq_div_pow]; exact Nat.lt_of_le_of_lt (Nat.div_le_self _ _) (V_lt h l)
  have e : Go.bits .and .u64 (pL (V hi lo >>> (n - 1 - i))) 1 = pL ((V hi lo >>> (n - 1 - i)) &&& 1) := (and_p _ 1 hS (by decide)).2
  rw [e, Nat.and_one_is_mod]
  have e2 : pL (V hi lo >>> (n - 1 - i) % 2) = ((V hi lo >>> (n - 1 - i) % 2 : Nat) : Int) := by
    unfold pL
    rw [Nat.mod_eq_of_lt (a := V hi lo >>> (n - 1 - i) % 2) (by rw [two64]; omega)]
  rw [e2, Nat.testBit, Nat.and_comm, Nat.and_one_is_mod]
  rcases Nat.mod_two_eq_zero_or_one (V hi lo >>> (n - 1 - i)) with z | z <;> rw [z] <;> rfl
end Go.Proofs.YtofnhgpiipmegaaDoor.PV
namespace Go.Proofs.YtofnhgpiipmegaaDoor.PV
open Go.RowKit Go.Proofs.YtofnhgpiipmegaaDoorW.PrintWords Go.Proofs.YtofnhgpiipmegaaDoorW.PrintLast Go.Proofs.YtofnhgpiipmegaaDoorW.PrintMore
theorem awake_f : turnoutlaw01_awake.f 40 = some true := by decide +kernel
theorem awake_calls (w : World) (hG : GlobalsAt w) : Calls Tryd.prog 8 #[] w fun e w' => e = .returned (.bool true) ∧ Below w.heap.size w w' :=
  turnoutlaw01_awake.calls 40 true w hG awake_f
#print axioms awake_calls
end Go.Proofs.YtofnhgpiipmegaaDoor.PV
namespace Go.Proofs.YtofnhgpiipmegaaDoor.PV
open Go.RowKit Go.Proofs.YtofnhgpiipmegaaDoorW.PrintWords Go.Proofs.YtofnhgpiipmegaaDoorW.PrintLast Go.Proofs.YtofnhgpiipmegaaDoorW.PrintMore
set_option linter.unusedVariables false
set_option linter.unusedSimpArgs false
theorem mod_mod_pow (X n : Nat) (h : n ≤ 128) : X % 2 ^ 128 % 2 ^ n = X % 2 ^ n := Nat.mod_mod_of_dvd X (Nat.pow_dvd_pow 2 h)
theorem mod_lt_128 (X n : Nat) (h : n ≤ 128) : X % 2 ^ n < 2 ^ 128 := Nat.lt_of_lt_of_le (Nat.mod_lt _ (Nat.two_pow_pos n)) (Nat.pow_le_pow_right (by decide) h)
theorem V_sum {a0 a1 b0 b1 : Int} (h1 : inU a0 = true) (h2 : inU a1 = true) (h3 : inU b0 = true) (h4 : inU b1 = true) :
    V (addHi a0 b0 (addCz a1 b1 0)) (addHi a1 b1 0) = (V a0 a1 + V b0 b1) % 2 ^ 128 := by
  have := inU_lo h1; have := inU_hi h1; have := inU_lo h2; have := inU_hi h2; have := inU_lo h3; have := inU_hi h3; have := inU_lo h4; have := inU_hi h4
  unfold V addHi addCz; rw [two64, two128]; omega
theorem V_dif {a0 a1 b0 b1 : Int} (h1 : inU a0 = true) (h2 : inU a1 = true) (h3 : inU b0 = true) (h4 : inU b1 = true) :
    V (subLo a0 b0 (subBw a1 b1 0)) (subLo a1 b1 0) = (V a0 a1 + (2 ^ 128 - V b0 b1)) % 2 ^ 128 := by
  have := inU_lo h1; have := inU_hi h1; have := inU_lo h2; have := inU_hi h2; have := inU_lo h3; have := inU_hi h3; have := inU_lo h4; have := inU_hi h4
  unfold V subLo subBw; rw [two64, two128]
  split <;> omega
theorem addHi_in' (x y c : Int) : inU (addHi x y c) = true := by unfold inU addHi; simp; omega
theorem subLo_in (x y c : Int) : inU (subLo x y c) = true := by unfold inU subLo; simp; omega
theorem Add_f {a0 a1 b0 b1 : Int} (h1 : inU a0 = true) (h2 : inU a1 = true) (h3 : inU b0 = true) (h4 : inU b1 = true) (n : Nat) (n1 : 1 ≤ n) (n2 : n ≤ 128) :
    value_Add.f a0 a1 b0 b1 n = some (pH ((V a0 a1 + V b0 b1) % 2 ^ n), pL ((V a0 a1 + V b0 b1) % 2 ^ n)) := by
  unfold value_Add.f
  rw [if_pos (by simp [h1, h2, h3, h4]), Cut_f _ _ (addHi_in' _ _ _) (addHi_in' _ _ _) n n1 n2, V_sum h1 h2 h3 h4, mod_mod_pow _ _ n2]
theorem Sub_f {a0 a1 b0 b1 : Int} (h1 : inU a0 = true) (h2 : inU a1 = true) (h3 : inU b0 = true) (h4 : inU b1 = true) (n : Nat) (n1 : 1 ≤ n) (n2 : n ≤ 128) :
    value_Sub.f a0 a1 b0 b1 n = some (pH ((V a0 a1 + (2 ^ 128 - V b0 b1)) % 2 ^ n), pL ((V a0 a1 + (2 ^ 128 - V b0 b1)) % 2 ^ n)) := by
  unfold value_Sub.f
  rw [if_pos (by simp [h1, h2, h3, h4]), Cut_f _ _ (subLo_in _ _ _) (subLo_in _ _ _) n n1 n2, V_dif h1 h2 h3 h4, mod_mod_pow _ _ n2]
/-- The carry into bit k. -/
def cyN (A B k : Nat) : Bool := BitVec.carry k (BitVec.ofNat 128 A) (BitVec.ofNat 128 B) false
theorem bv_bit (A k : Nat) (h : A < 2 ^ 128) : (BitVec.ofNat 128 A).getLsbD k = A.testBit k := by
  rw [BitVec.getLsbD_ofNat]
  by_cases hk : k < 128
  · simp [hk]
  · rw [test_lt h (by omega)]; simp
theorem cyN_zero (A B : Nat) : cyN A B 0 = false := by simp [cyN]
theorem cyN_succ (A B k : Nat) (hA : A < 2 ^ 128) (hB : B < 2 ^ 128) : cyN A B (k + 1) = ((A.testBit k && B.testBit k) || (A.testBit k && cyN A B k) || (B.testBit k && cyN A B k)) := by
  unfold cyN
  rw [BitVec.carry_succ, bv_bit A k hA, bv_bit B k hB]
theorem sum_bit (A B n k : Nat) (hA : A < 2 ^ 128) (hB : B < 2 ^ 128) (hn : n ≤ 128) (hk : k < n) : ((A + B) % 2 ^ n).testBit k = ((A.testBit k != B.testBit k) != cyN A B k) := by
  have h := BitVec.getLsbD_add (show k < 128 by omega) (BitVec.ofNat 128 A) (BitVec.ofNat 128 B)
  rw [bv_bit A k hA, bv_bit B k hB] at h
  have e : (BitVec.ofNat 128 A + BitVec.ofNat 128 B).getLsbD k = ((A + B) % 2 ^ n).testBit k := by
    rw [← BitVec.ofNat_add, BitVec.getLsbD_ofNat, Nat.testBit_mod_two_pow]
    simp [hk, show k < 128 by omega]
  rw [← e, h]
  unfold cyN
  cases A.testBit k <;> cases B.testBit k <;> cases BitVec.carry k (BitVec.ofNat 128 A) (BitVec.ofNat 128 B) false <;> rfl
end Go.Proofs.YtofnhgpiipmegaaDoor.PV
namespace Go.Proofs.YtofnhgpiipmegaaDoor.PV
open Go.RowKit Go.Proofs.YtofnhgpiipmegaaDoorW.PrintWords Go.Proofs.YtofnhgpiipmegaaDoorW.PrintLast Go.Proofs.YtofnhgpiipmegaaDoorW.PrintMore
set_option linter.unusedVariables false
set_option linter.unusedSimpArgs false
/-- How many bits a number has. -/
def bl (N : Nat) : Nat := if N = 0 then 0 else Nat.log2 N + 1
theorem bl_zero : bl 0 = 0 := rfl
theorem bl_hi (N : Nat) : N < 2 ^ bl N := by
  unfold bl
  by_cases h : N = 0
  · subst h; simp
  · rw [if_neg h]; exact Nat.lt_log2_self
theorem bl_lo {N : Nat} (h : N ≠ 0) : 2 ^ (bl N - 1) ≤ N := by
  unfold bl; rw [if_neg h]; exact Nat.log2_self_le h
theorem bl_pos {N : Nat} (h : N ≠ 0) : 1 ≤ bl N := by unfold bl; rw [if_neg h]; omega
theorem bl_eq {N k : Nat} (h0 : 1 ≤ k) (h1 : 2 ^ (k - 1) ≤ N) (h2 : N < 2 ^ k) : bl N = k := by
  have hN : N ≠ 0 := by have := Nat.two_pow_pos (k - 1); omega
  have a := bl_hi N
  have b := bl_lo hN
  have c := bl_pos hN
  have d : k - 1 < bl N := (Nat.pow_lt_pow_iff_right (by decide : 1 < 2)).mp (Nat.lt_of_le_of_lt h1 a)
  have e : bl N - 1 < k := (Nat.pow_lt_pow_iff_right (by decide : 1 < 2)).mp (Nat.lt_of_le_of_lt b h2)
  omega
theorem bl_le {N k : Nat} (h : N < 2 ^ k) : bl N ≤ k := by
  by_cases h0 : N = 0
  · subst h0; rw [bl_zero]; omega
  · have b := bl_lo h0
    have e : bl N - 1 < k := (Nat.pow_lt_pow_iff_right (by decide : 1 < 2)).mp (Nat.lt_of_le_of_lt b h)
    omega
theorem bl_top {N : Nat} (h : N ≠ 0) : N.testBit (bl N - 1) = true := by
  have a := bl_hi N
  have b := bl_lo h
  have c := bl_pos h
  rw [Nat.testBit_eq_decide_div_mod_eq]
  have e : N / 2 ^ (bl N - 1) = 1 := by
    apply Nat.div_eq_of_lt_le
    · omega
    · have : 2 ^ bl N = 2 ^ (bl N - 1) * 2 := by rw [← Nat.pow_succ]; congr 1; omega
      omega
  rw [e]; rfl
theorem bl_shift {N s : Nat} (h : N ≠ 0) : bl (N * 2 ^ s) = bl N + s := by
  have a := bl_hi N
  have b := bl_lo h
  have c := bl_pos h
  apply bl_eq (by omega)
  · rw [show bl N + s - 1 = (bl N - 1) + s from by omega, Nat.pow_add]; exact Nat.mul_le_mul_right _ b
  · rw [Nat.pow_add]; exact Nat.mul_lt_mul_of_pos_right a (Nat.two_pow_pos s)
theorem bl_div {N s : Nat} (h : 2 ^ s ≤ N) : bl N = bl (N / 2 ^ s) + s := by
  have hp := Nat.two_pow_pos s
  have hq : N / 2 ^ s ≠ 0 := by
    have := Nat.div_pos h hp; omega
  have a := bl_hi (N / 2 ^ s)
  have b := bl_lo hq
  have c := bl_pos hq
  apply bl_eq (by omega)
  · rw [show bl (N / 2 ^ s) + s - 1 = (bl (N / 2 ^ s) - 1) + s from by omega, Nat.pow_add]
    exact Nat.le_trans (Nat.mul_le_mul_right _ b) (Nat.div_mul_le_self N _)
  · rw [Nat.pow_add]; exact (Nat.div_lt_iff_lt_mul hp).mp a
/-- The table of lengths. -/
def lenTab : ByteArray := ⟨#[0, 1, 2, 2, 3, 3, 3, 3, 4, 4, 4, 4, 4, 4, 4, 4, 5, 5, 5, 5, 5, 5, 5, 5, 5, 5, 5, 5, 5, 5, 5, 5, 6, 6, 6, 6, 6, 6, 6, 6, 6, 6, 6, 6, 6, 6, 6, 6, 6, 6, 6, 6, 6, 6, 6, 6, 6, 6, 6, 6, 6, 6, 6, 6, 7, 7, 7, 7, 7, 7, 7, 7, 7, 7, 7, 7, 7, 7, 7, 7, 7, 7, 7, 7, 7, 7, 7, 7, 7, 7, 7, 7, 7, 7, 7, 7, 7, 7, 7, 7, 7, 7, 7, 7, 7, 7, 7, 7, 7, 7, 7, 7, 7, 7, 7, 7, 7, 7, 7, 7, 7, 7, 7, 7, 7, 7, 7, 7, 8, 8, 8, 8, 8, 8, 8, 8, 8, 8, 8, 8, 8, 8, 8, 8, 8, 8, 8, 8, 8, 8, 8, 8, 8, 8, 8, 8, 8, 8, 8, 8, 8, 8, 8, 8, 8, 8, 8, 8, 8, 8, 8, 8, 8, 8, 8, 8, 8, 8, 8, 8, 8, 8, 8, 8, 8, 8, 8, 8, 8, 8, 8, 8, 8, 8, 8, 8, 8, 8, 8, 8, 8, 8, 8, 8, 8, 8, 8, 8, 8, 8, 8, 8, 8, 8, 8, 8, 8, 8, 8, 8, 8, 8, 8, 8, 8, 8, 8, 8, 8, 8, 8, 8, 8, 8, 8, 8, 8, 8, 8, 8, 8, 8, 8, 8, 8, 8, 8, 8, 8, 8, 8, 8, 8, 8, 8, 8]⟩
theorem lenTab_all : ∀ i < 256, bt lenTab (i : Nat) = (bl i : Nat) := by decide +kernel
theorem lenTab_at (i : Nat) (h : i < 256) : bt lenTab ((i : Nat) : Int) = ((bl i : Nat) : Int) := lenTab_all i h
theorem len_j0 (k a s : Nat) (ha : a < 2 ^ 32) (hs : s ≤ 32) : bits_Len64.j0 (k + 1) a s = some ((s + bl a : Nat) : Int) := by
  have ha' : a < 4294967296 := ha
  unfold bits_Len64.j0
  rw [show (⟨#[0, 1, 2, 2, 3, 3, 3, 3, 4, 4, 4, 4, 4, 4, 4, 4, 5, 5, 5, 5, 5, 5, 5, 5, 5, 5, 5, 5, 5, 5, 5, 5, 6, 6, 6, 6, 6, 6, 6, 6, 6, 6, 6, 6, 6, 6, 6, 6, 6, 6, 6, 6, 6, 6, 6, 6, 6, 6, 6, 6, 6, 6, 6, 6, 7, 7, 7, 7, 7, 7, 7, 7, 7, 7, 7, 7, 7, 7, 7, 7, 7, 7, 7, 7, 7, 7, 7, 7, 7, 7, 7, 7, 7, 7, 7, 7, 7, 7, 7, 7, 7, 7, 7, 7, 7, 7, 7, 7, 7, 7, 7, 7, 7, 7, 7, 7, 7, 7, 7, 7, 7, 7, 7, 7, 7, 7, 7, 7, 8, 8, 8, 8, 8, 8, 8, 8, 8, 8, 8, 8, 8, 8, 8, 8, 8, 8, 8, 8, 8, 8, 8, 8, 8, 8, 8, 8, 8, 8, 8, 8, 8, 8, 8, 8, 8, 8, 8, 8, 8, 8, 8, 8, 8, 8, 8, 8, 8, 8, 8, 8, 8, 8, 8, 8, 8, 8, 8, 8, 8, 8, 8, 8, 8, 8, 8, 8, 8, 8, 8, 8, 8, 8, 8, 8, 8, 8, 8, 8, 8, 8, 8, 8, 8, 8, 8, 8, 8, 8, 8, 8, 8, 8, 8, 8, 8, 8, 8, 8, 8, 8, 8, 8, 8, 8, 8, 8, 8, 8, 8, 8, 8, 8, 8, 8, 8, 8, 8, 8, 8, 8, 8, 8, 8, 8, 8, 8]⟩ : ByteArray) = lenTab from rfl]
  dsimp only
  by_cases h1 : 65536 ≤ a
  · rw [if_pos (by omega)]
    by_cases h2 : 16777216 ≤ a
    · rw [if_pos (by omega), if_pos (by omega), if_pos (by omega)]
      rw [show ((a : Int) / 65536 / 256 % 256) = ((a / 2 ^ 24 : Nat) : Int) from by omega, lenTab_at _ (by omega)]
      have e := bl_div (N := a) (s := 24) (by omega)
      have b := bl_le (N := a / 2 ^ 24) (k := 8) (by omega)
      refine congrArg some ?_; unfold wrap64; omega
    · rw [if_neg (by omega), if_pos (by omega), if_pos (by omega)]
      rw [show ((a : Int) / 65536 % 256) = ((a / 2 ^ 16 : Nat) : Int) from by omega, lenTab_at _ (by omega)]
      have e := bl_div (N := a) (s := 16) (by omega)
      have b := bl_le (N := a / 2 ^ 16) (k := 8) (by omega)
      refine congrArg some ?_; unfold wrap64; omega
  · rw [if_neg (by omega)]
    by_cases h2 : 256 ≤ a
    · rw [if_pos (by omega), if_pos (by omega), if_pos (by omega)]
      rw [show ((a : Int) / 256 % 256) = ((a / 2 ^ 8 : Nat) : Int) from by omega, lenTab_at _ (by omega)]
      have e := bl_div (N := a) (s := 8) (by omega)
      have b := bl_le (N := a / 2 ^ 8) (k := 8) (by omega)
      refine congrArg some ?_; unfold wrap64; omega
    · rw [if_neg (by omega), if_pos (by omega), if_pos (by omega)]
      rw [show ((a : Int) % 256) = ((a : Nat) : Int) from by omega, lenTab_at _ (by omega)]
      have b := bl_le (N := a) (k := 8) (by omega)
      refine congrArg some ?_; unfold wrap64; omega
theorem Len64_f (k a : Nat) (ha : a < 2 ^ 64) : bits_Len64.f (k + 1) a = some ((bl a : Nat) : Int) := by
  rw [two64] at ha
  unfold bits_Len64.f
  by_cases h : 4294967296 ≤ a
  · rw [if_pos (by omega), show ((a : Int) / 4294967296) = ((a / 2 ^ 32 : Nat) : Int) from by omega, show (32 : Int) = ((32 : Nat) : Int) from rfl, len_j0 k _ 32 (by omega) (by omega)]
    have e := bl_div (N := a) (s := 32) (by omega)
    rw [e]; congr 1; omega
  · rw [if_neg (by omega), show (0 : Int) = ((0 : Nat) : Int) from rfl, len_j0 k _ 0 (by omega) (by omega)]
    congr 1; omega
theorem Lead_f (k a : Nat) (ha : a < 2 ^ 64) : bits_LeadingZeros64.f (k + 1) a = some ((64 - bl a : Nat) : Int) := by
  have b := bl_le ha
  unfold bits_LeadingZeros64.f
  rw [Len64_f k a ha, Option.bind_some, wrap64_small (by omega) (by omega)]
  congr 1; omega
theorem xor_n (a b : Nat) (ha : a < 2 ^ 64) (hb : b < 2 ^ 64) : Go.bits .xor .u64 (a : Int) (b : Int) = ((a ^^^ b : Nat) : Int) := bits_xor_u64_nat a b ha hb
theorem xor_p (M N : Nat) (hM : M < 2 ^ 128) (hN : N < 2 ^ 128) : Go.bits .xor .u64 (pH M) (pH N) = pH (M ^^^ N) ∧ Go.bits .xor .u64 (pL M) (pL N) = pL (M ^^^ N) := by
  have d : ∀ X : Nat, X < 2 ^ 128 → X / 2 ^ 64 < 2 ^ 64 := fun X hX => by rw [two128] at hX; rw [two64]; omega
  constructor
  · unfold pH
    rw [xor_n _ _ (d M hM) (d N hN)]
    refine congrArg (fun z : Nat => (z : Int)) ?_
    apply Nat.eq_of_testBit_eq; intro j
    simp only [Nat.testBit_xor, Nat.testBit_div_two_pow]
  · unfold pL
    rw [xor_n _ _ (Nat.mod_lt _ (by decide)) (Nat.mod_lt _ (by decide))]
    refine congrArg (fun z : Nat => (z : Int)) ?_
    apply Nat.eq_of_testBit_eq; intro j
    simp only [Nat.testBit_xor, Nat.testBit_mod_two_pow]
    by_cases hj : j < 64 <;> simp [hj]
theorem xor_lt {M N : Nat} {n : Nat} (hM : M < 2 ^ n) (hN : N < 2 ^ n) : M ^^^ N < 2 ^ n := Nat.xor_lt_two_pow hM hN
theorem Xor_f (a0 a1 b0 b1 : Int) (h1 : inU a0 = true) (h2 : inU a1 = true) (h3 : inU b0 = true) (h4 : inU b1 = true) : value_Xor.f a0 a1 b0 b1 = some (pH (V a0 a1 ^^^ V b0 b1), pL (V a0 a1 ^^^ V b0 b1)) := by
  have ⟨e1, e2⟩ := xor_p _ _ (V_lt h1 h2) (V_lt h3 h4)
  rw [pH_V h1 h2, pH_V h3 h4] at e1
  rw [pL_V h1 h2, pL_V h3 h4] at e2
  unfold value_Xor.f
  rw [e1, e2]
theorem And_f (M N : Nat) (hM : M < 2 ^ 128) (hN : N < 2 ^ 128) : value_And.f (pH M) (pL M) (pH N) (pL N) = some (pH (M &&& N), pL (M &&& N)) := by
  have ⟨e1, e2⟩ := and_p M N hM hN
  unfold value_And.f
  rw [e1, e2]
end Go.Proofs.YtofnhgpiipmegaaDoor.PV
namespace Go.Proofs.YtofnhgpiipmegaaDoor.PV
open Go.RowKit Go.Proofs.YtofnhgpiipmegaaDoorW.PrintWords Go.Proofs.YtofnhgpiipmegaaDoorW.PrintLast Go.Proofs.YtofnhgpiipmegaaDoorW.PrintMore
set_option linter.unusedVariables false
set_option linter.unusedSimpArgs false
theorem shift_mod (X n : Nat) (h2 : n ≤ 128) : (X <<< (128 - n)) % 2 ^ 128 = (X % 2 ^ n) * 2 ^ (128 - n) := by
  have e : 2 ^ 128 = 2 ^ n * 2 ^ (128 - n) := by rw [← Nat.pow_add, Nat.add_sub_cancel' h2]
  rw [Nat.shiftLeft_eq, e, Nat.mul_mod_mul_right]
theorem mn_nat (a b : Nat) : mn (a : Int) (b : Int) = ((min a b : Nat) : Int) := by
  unfold mn; split <;> omega
theorem Common_f {a0 a1 b0 b1 : Int} (h1 : inU a0 = true) (h2 : inU a1 = true) (h3 : inU b0 = true) (h4 : inU b1 = true) (k n : Nat) (n1 : 1 ≤ n) (n2 : n ≤ 128) :
    value_Common.f (k + 1) a0 a1 b0 b1 n = some ((n - bl ((V a0 a1 ^^^ V b0 b1) % 2 ^ n) : Nat) : Int) := by
  have hX : V a0 a1 ^^^ V b0 b1 < 2 ^ 128 := xor_lt (V_lt h1 h2) (V_lt h3 h4)
  unfold value_Common.f
  rw [isWidth_yes (by omega), Option.bind_some, if_pos rfl, Xor_f _ _ _ _ h1 h2 h3 h4, Option.bind_some]
  dsimp only
  generalize V a0 a1 ^^^ V b0 b1 = X at hX
  rw [wrap64_small (by omega) (by omega), show ((128 : Int) - n) = ((128 - n : Nat) : Int) from by omega, left_f _ _ (pH_in hX) (pL_in X) _ (by omega), Option.bind_some, V_p hX, shift_mod X n n2]
  dsimp only
  have hR := Nat.mod_lt X (Nat.two_pow_pos n)
  generalize X % 2 ^ n = R at hR
  have hb := bl_le hR
  have hS : R * 2 ^ (128 - n) < 2 ^ 128 := by
    have e : 2 ^ 128 = 2 ^ n * 2 ^ (128 - n) := by rw [← Nat.pow_add, Nat.add_sub_cancel' n2]
    rw [e]; exact Nat.mul_lt_mul_of_pos_right hR (Nat.two_pow_pos _)
  have hbs : min n (128 - bl (R * 2 ^ (128 - n))) = n - bl R := by
    by_cases h0 : R = 0
    · subst h0; rw [Nat.zero_mul, bl_zero]; omega
    · rw [bl_shift h0]; omega
  rw [← hbs]
  generalize R * 2 ^ (128 - n) = S at hS
  have hs8 := bl_le hS
  by_cases hh : S < 2 ^ 64
  · have e0 : pH S = 0 := by unfold pH; rw [Nat.div_eq_of_lt hh]; rfl
    have e1 : pL S = (S : Int) := by unfold pL; rw [Nat.mod_eq_of_lt hh]
    have hb6 := bl_le hh
    rw [if_pos e0, e1, Lead_f k S hh, Option.bind_some, wrap64_small (by omega) (by omega), show ((64 : Int) + ((64 - bl S : Nat) : Int)) = ((128 - bl S : Nat) : Int) from by omega, mn_nat]
  · have hh' : 2 ^ 64 ≤ S := Nat.le_of_not_lt hh
    have e0 : pH S ≠ 0 := by
      unfold pH
      have := Nat.div_pos hh' (Nat.two_pow_pos 64)
      omega
    have hd : S / 2 ^ 64 < 2 ^ 64 := by rw [two128] at hS; rw [two64]; omega
    have e := bl_div (N := S) (s := 64) hh'
    rw [if_neg e0]
    unfold pH
    rw [Lead_f k _ hd, Option.bind_some, mn_nat]
    congr 3
    omega
theorem Mask_f (k n c : Nat) (n1 : 1 ≤ n) (n2 : n ≤ 128) (hc : c ≤ n) : value_Mask.f (k + 1) n c = some (pH ((2 ^ c - 1) * 2 ^ (n - c)), pL ((2 ^ c - 1) * 2 ^ (n - c)), 0) := by
  have h1 : 2 ^ c - 1 < 2 ^ 128 := by
    have := Nat.pow_le_pow_right (n := 2) (by decide) (Nat.le_trans hc n2)
    have := Nat.two_pow_pos c
    omega
  unfold value_Mask.f
  rw [isWidth_yes (by omega), Option.bind_some, if_pos rfl, if_neg (by omega), decide_eq_false (by omega)]
  simp only [value_Mask.j0, Bool.false_eq_true, if_false]
  rw [ones_f c (by omega), Option.bind_some]
  dsimp only
  rw [wrap64_small (by omega) (by omega), show ((n : Int) - c) = ((n - c : Nat) : Int) from by omega, left_f _ _ (pH_in h1) (pL_in _) _ (by omega), Option.bind_some, V_p h1, Nat.shiftLeft_eq, Nat.mod_eq_of_lt]
  have e : 2 ^ n = 2 ^ c * 2 ^ (n - c) := by rw [← Nat.pow_add, Nat.add_sub_cancel' hc]
  have e2 := Nat.pow_le_pow_right (n := 2) (by decide) n2
  have e3 : (2 ^ c - 1) * 2 ^ (n - c) < 2 ^ c * 2 ^ (n - c) := Nat.mul_lt_mul_of_pos_right (by have := Nat.two_pow_pos c; omega) (Nat.two_pow_pos _)
  omega
theorem cmp64 (a b : Int) : cmp_Compare_uint64.f a b = some (if a < b then -1 else if b < a then 1 else 0) := by
  unfold cmp_Compare_uint64.f cmp_isNaN_uint64.f
  simp only [Option.bind_some, bne_self_eq_false, Bool.false_eq_true, if_false]
  by_cases h : a < b
  · rw [if_pos h, if_pos h]
  · rw [if_neg h, if_neg h]
    by_cases h2 : b < a
    · rw [if_pos h2, if_pos h2]
    · rw [if_neg h2, if_neg h2]
theorem cmpOr2 (k : Nat) (x y : Int) : cmp_Or_int.f (k + 3) [x, y] = some (if x = 0 then y else x) := by
  unfold cmp_Or_int.f
  simp only [cmp_Or_int.l0, List.length_cons, List.length_nil]
  by_cases hx : x = 0
  · by_cases hy : y = 0
    · subst hx; subst hy; simp [rd, wrap64]
    · subst hx; simp [rd, hy, wrap64]
  · simp [rd, hx]
/-- Below 0, 0, above 0. -/
def cmpN (M N : Nat) : Int := if M < N then -1 else if N < M then 1 else 0
theorem Compare_f (k M N : Nat) (hM : M < 2 ^ 128) (hN : N < 2 ^ 128) : value_Compare.f (k + 3) (pH M) (pL M) (pH N) (pL N) = some (cmpN M N) := by
  unfold value_Compare.f
  rw [cmp64, Option.bind_some, cmp64, Option.bind_some, cmpOr2, Option.bind_some]
  unfold pH pL cmpN
  rw [two64]
  congr 1
  repeat' split
  all_goals omega
/-- The lowest m bytes of a number, the highest first. -/
def beL : Nat → Nat → List Int
  | 0, _ => []
  | m + 1, X => ((X / 256 ^ m % 256 : Nat) : Int) :: beL m X
theorem beL_length : ∀ (m X : Nat), (beL m X).length = m
  | 0, _ => rfl
  | m + 1, X => by simp [beL, beL_length m X]
theorem set_rep (i d : Nat) (x : Int) (l : List Int) : (List.replicate (d + 1) (0 : Int) ++ l).set d x = List.replicate d 0 ++ x :: l := by
  induction d with
  | zero => rfl
  | succ d ih =>
    rw [List.replicate_succ, List.cons_append, List.set_cons_succ, ih]
    rfl
theorem byte_of (X i : Nat) (h : i ≤ 15) : pL (X >>> (8 * i)) % 256 = ((X / 256 ^ i % 256 : Nat) : Int) := by
  unfold pL
  rw [Nat.shiftRight_eq_div_pow, Nat.pow_mul, show (2 : Nat) ^ 8 = 256 from rfl]
  have : ((X / 256 ^ i % 2 ^ 64 : Nat) : Int) % 256 = ((X / 256 ^ i % 2 ^ 64 % 256 : Nat) : Int) := by omega
  rw [this, Nat.mod_mod_of_dvd _ (by decide)]
theorem Bytes_l0 (hi lo : Int) (h1 : inU hi = true) (h2 : inU lo = true) (m : Nat) (hm : m ≤ 16) : ∀ (d i k : Nat), i + d = m → d < k →
    value_Bytes.l0 k (List.replicate d 0 ++ beL i (V hi lo)) m i hi lo = some (strOfNums (beL m (V hi lo)), 0) := by
  intro d
  induction d with
  | zero =>
    intro i k hi' hk
    obtain ⟨k, rfl⟩ : ∃ j, k = j + 1 := ⟨k - 1, by omega⟩
    simp only [value_Bytes.l0]
    rw [if_neg (by omega)]
    have : i = m := by omega
    subst this
    simp
  | succ d ih =>
    intro i k hi' hk
    obtain ⟨k, rfl⟩ : ∃ j, k = j + 1 := ⟨k - 1, by omega⟩
    simp only [value_Bytes.l0]
    have hl : (List.replicate (d + 1) (0 : Int) ++ beL i (V hi lo)).length = m := by simp [beL_length]; omega
    rw [if_pos (by omega), hl, wrap64_small (by omega) (by omega), show ((8 : Int) * i) = ((8 * i : Nat) : Int) from by omega, right_f _ _ h1 h2 _ (by omega), Option.bind_some]
    have e1 : wrap64 (wrap64 ((m : Int) - 1) - i) = (d : Int) := by unfold wrap64; omega
    have e2 : wrap64 ((i : Int) + 1) = ((i + 1 : Nat) : Int) := by unfold wrap64; omega
    rw [e1, e2, if_pos (by omega), if_pos (by omega)]
    dsimp only
    rw [byte_of _ _ (by omega), Int.toNat_natCast, set_rep i d]
    exact ih (i + 1) k (by omega) (by omega)
theorem Bytes_f (hi lo : Int) (h1 : inU hi = true) (h2 : inU lo = true) (n k : Nat) (n1 : 1 ≤ n) (n2 : n ≤ 128) (hf : V hi lo < 2 ^ n) (hk : 17 ≤ k) :
    value_Bytes.f k hi lo n = some (strOfNums (beL ((n + 7) / 8) (V hi lo)), 0) := by
  unfold value_Bytes.f
  rw [isWidth_yes (by omega), Option.bind_some, if_pos rfl, Fits_f _ _ h1 h2 n n1 n2, decide_eq_true hf, Option.bind_some, if_pos rfl]
  have e : wrap64 (Int.tdiv (wrap64 ((n : Int) + 7)) 8) = (((n + 7) / 8 : Nat) : Int) := by
    rw [wrap64_small (x := (n : Int) + 7) (by omega) (by omega), show ((n : Int) + 7) = ((n + 7 : Nat) : Int) from by omega]
    rw [show (8 : Int) = ((8 : Nat) : Int) from rfl, ← Int.ofNat_tdiv, wrap64_small (by omega) (by omega)]
  rw [e, if_pos (by omega), if_pos (by omega), Option.bind_some, Int.toNat_natCast, List.length_replicate]
  have := Bytes_l0 hi lo h1 h2 ((n + 7) / 8) (by omega) ((n + 7) / 8) 0 k (by omega) (by omega)
  simpa [beL] using this
theorem bytes_eq (s : ByteArray) : s.toList = s.data.toList := ByteArray.toList_eq s
theorem less_beL : ∀ (m X Y : Nat), Op.bytesLess ((beL m X).map fun n => UInt8.ofNat n.toNat) ((beL m Y).map fun n => UInt8.ofNat n.toNat) = decide (X % 256 ^ m < Y % 256 ^ m)
  | 0, X, Y => by simp [beL, Op.bytesLess, Nat.mod_one]
  | m + 1, X, Y => by
    have ih := less_beL m X Y
    simp only [beL, List.map_cons, Op.bytesLess, ih, Int.toNat_natCast]
    have hx : X % 256 ^ (m + 1) = 256 ^ m * (X / 256 ^ m % 256) + X % 256 ^ m := by
      rw [Nat.pow_succ, Nat.mod_mul, Nat.add_comm]
    have hy : Y % 256 ^ (m + 1) = 256 ^ m * (Y / 256 ^ m % 256) + Y % 256 ^ m := by
      rw [Nat.pow_succ, Nat.mod_mul, Nat.add_comm]
    have px : X % 256 ^ m < 256 ^ m := Nat.mod_lt _ (Nat.pow_pos (by decide))
    have py : Y % 256 ^ m < 256 ^ m := Nat.mod_lt _ (Nat.pow_pos (by decide))
    have bx : X / 256 ^ m % 256 < 256 := Nat.mod_lt _ (by decide)
    have by' : Y / 256 ^ m % 256 < 256 := Nat.mod_lt _ (by decide)
    rw [hx, hy]
    generalize X / 256 ^ m % 256 = a at bx
    generalize Y / 256 ^ m % 256 = b at by'
    generalize X % 256 ^ m = r at px
    generalize Y % 256 ^ m = s at py
    have hlt : (UInt8.ofNat a < UInt8.ofNat b) ↔ a < b := by
      rw [UInt8.lt_iff_toNat_lt, UInt8.toNat_ofNat_of_lt' bx, UInt8.toNat_ofNat_of_lt' by']
    have heq : (UInt8.ofNat a = UInt8.ofNat b) ↔ a = b := by
      rw [← UInt8.toNat_inj, UInt8.toNat_ofNat_of_lt' bx, UInt8.toNat_ofNat_of_lt' by']
    rw [Bool.eq_iff_iff]
    simp only [Bool.or_eq_true, Bool.and_eq_true, decide_eq_true_eq, beq_iff_eq, hlt, heq]
    rcases Nat.lt_trichotomy a b with h | h | h
    · have : 256 ^ m * (a + 1) ≤ 256 ^ m * b := Nat.mul_le_mul_left _ h
      rw [Nat.mul_succ] at this
      constructor
      · intro _; omega
      · intro _; exact Or.inl h
    · subst h
      constructor
      · rintro (h | h)
        · omega
        · omega
      · intro h; exact Or.inr ⟨rfl, by omega⟩
    · have : 256 ^ m * (b + 1) ≤ 256 ^ m * a := Nat.mul_le_mul_left _ h
      rw [Nat.mul_succ] at this
      constructor
      · rintro (h' | h')
        · omega
        · omega
      · intro _; omega
theorem less_str (m X Y : Nat) (hX : X < 256 ^ m) (hY : Y < 256 ^ m) : Op.bytesLess (strOfNums (beL m X)).toList (strOfNums (beL m Y)).toList = decide (X < Y) := by
  rw [bytes_eq, bytes_eq, strOfNums_data, strOfNums_data, less_beL, Nat.mod_eq_of_lt hX, Nat.mod_eq_of_lt hY]
end Go.Proofs.YtofnhgpiipmegaaDoor.PV
namespace Go.Proofs.YtofnhgpiipmegaaDoor.PV
open Go.RowKit Go.Proofs.YtofnhgpiipmegaaDoorW.PrintWords Go.Proofs.YtofnhgpiipmegaaDoorW.PrintLast Go.Proofs.YtofnhgpiipmegaaDoorW.PrintMore
set_option linter.unusedVariables false
set_option linter.unusedSimpArgs false
/-- The lowest m bits of a number, the highest first. -/
def topL (m X : Nat) : List Bool := (List.range m).map fun j => X.testBit (m - 1 - j)
theorem topL_length (m X : Nat) : (topL m X).length = m := by simp [topL]
theorem topL_get (m X i : Nat) (h : i < m) : (topL m X).getD i false = X.testBit (m - 1 - i) := by
  simp [topL, List.getD, h]
theorem ext_getD (l m : List Bool) (hl : l.length = m.length) (h : ∀ i, i < l.length → l.getD i false = m.getD i false) : l = m := by
  apply List.ext_getElem hl
  intro i h1 h2
  have := h i h1
  simpa [List.getD, h1, h2] using this
theorem eq_topL (l : List Bool) (m X : Nat) (hl : l.length = m) (h : ∀ i, i < m → l.getD i false = X.testBit (m - 1 - i)) : l = topL m X :=
  ext_getD _ _ (by rw [hl, topL_length]) fun i hi => by rw [topL_get _ _ _ (by omega)]; exact h i (by omega)
theorem topL_cons (m X : Nat) : topL (m + 1) X = X.testBit m :: topL m X := by
  symm
  apply eq_topL
  · simp [topL_length]
  · intro i hi
    cases i with
    | zero => simp
    | succ i =>
      rw [List.getD_cons_succ, topL_get _ _ _ (by omega)]
      congr 1; omega
theorem topL_snoc (m X : Nat) : topL (m + 1) X = topL m (X / 2) ++ [X.testBit 0] := by
  symm
  apply eq_topL
  · simp [topL_length]
  · intro i hi
    by_cases h : i < m
    · have e : (topL m (X / 2) ++ [X.testBit 0]).getD i false = (topL m (X / 2)).getD i false := by
        simp only [List.getD]; rw [List.getElem?_append_left (by rw [topL_length]; exact h)]
      rw [e, topL_get _ _ _ h, Nat.testBit_div_two]
      congr 1; omega
    · have : i = m := by omega
      subst this
      have e : (topL i (X / 2) ++ [X.testBit 0]).getD i false = X.testBit 0 := by
        simp only [List.getD]; rw [List.getElem?_append_right (by rw [topL_length]; omega), topL_length]; simp
      rw [e]; congr 1; omega
theorem worth_topL : ∀ (m X : Nat), worthL (topL m X) = ((X % 2 ^ m : Nat) : Int)
  | 0, X => by simp [topL, worthL, Nat.mod_one]
  | m + 1, X => by
    rw [topL_snoc, worthL_snoc, worth_topL m (X / 2)]
    have e : X % 2 ^ (m + 1) = 2 * (X / 2 % 2 ^ m) + X % 2 := by
      rw [Nat.pow_succ, Nat.mul_comm, Nat.mod_mul]; omega
    rw [e, Nat.testBit_zero]
    by_cases h : X % 2 = 1
    · simp [h]
    · have : X % 2 = 0 := by omega
      simp [this]
theorem take_topL (X : Nat) : (topL 128 X).take 64 = topL 64 (X / 2 ^ 64) := by
  apply eq_topL
  · simp [topL_length]
  · intro i hi
    have e : ((topL 128 X).take 64).getD i false = (topL 128 X).getD i false := by
      simp only [List.getD]; rw [List.getElem?_take, if_pos hi]
    rw [e, topL_get _ _ _ (by omega), Nat.testBit_div_two_pow]
    congr 1; omega
theorem drop_topL (X : Nat) : ((topL 128 X).drop 64).take 64 = topL 64 X := by
  apply eq_topL
  · simp [topL_length]
  · intro i hi
    have e : (((topL 128 X).drop 64).take 64).getD i false = (topL 128 X).getD (64 + i) false := by
      simp only [List.getD]; rw [List.getElem?_take, if_pos hi, List.getElem?_drop]
    rw [e, topL_get _ _ _ (by omega)]
    congr 1; omega
theorem takeHi_top {X : Nat} (h : X < 2 ^ 128) : takeHi (topL 128 X) = pH X := by
  unfold takeHi pH
  rw [take_topL, worth_topL, Nat.mod_eq_of_lt]
  rw [two128] at h; rw [two64]; omega
theorem takeLo_top (X : Nat) : takeLo (topL 128 X) = pL X := by
  unfold takeLo pL
  rw [drop_topL, worth_topL]
theorem bitk_nat (a k : Nat) (ha : a < 2 ^ 64) : bitk (a : Int) k = a.testBit k := by
  unfold bitk
  have e : ((a : Int) / 2 ^ k) = ((a / 2 ^ k : Nat) : Int) := by push_cast; rfl
  rw [e, show (1 : Int) = ((1 : Nat) : Int) from rfl, and_n _ _ (Nat.lt_of_le_of_lt (Nat.div_le_self _ _) ha) (by decide), Nat.and_one_is_mod, Nat.testBit_eq_decide_div_mod_eq]
  rw [Bool.eq_iff_iff]
  simp only [beq_iff_eq, decide_eq_true_eq]
  omega
theorem layL_top {hi lo : Int} (h : inU hi = true) (l : inU lo = true) : layL hi lo = topL 128 (V hi lo) := by
  obtain ⟨a, rfl, ha⟩ := nat_of h
  obtain ⟨b, rfl, hb⟩ := nat_of l
  rw [V_nat]
  apply eq_topL
  · exact layL_length _ _
  · intro i hi
    unfold layL layN
    simp only [List.getD, List.getElem?_map, List.getElem?_range hi, Option.map_some, Option.getD_some]
    rw [testBit_V _ _ _ hb]
    by_cases h6 : i < 64
    · rw [if_pos h6, if_neg (by omega), bitk_nat _ _ ha, decide_eq_true (by omega), Bool.true_and, show 128 - 1 - i - 64 = 63 - i from by omega]
    · rw [if_neg h6, if_pos (by omega), bitk_nat _ _ hb, decide_eq_true (by omega), Bool.true_and]
theorem cutL_top (X k : Nat) (hk : k ≤ 128) : cutL (topL 128 X) k = topL 128 (X % 2 ^ (128 - k)) := by
  apply eq_topL
  · rw [cutL_length _ _ (by rw [topL_length]; exact hk), topL_length]
  · intro i hi
    unfold cutL
    rw [Nat.testBit_mod_two_pow]
    by_cases h : i < k
    · rw [decide_eq_false (by omega), Bool.false_and]
      simp only [List.getD]; rw [List.getElem?_append_left (by simpa using h)]; simp [h]
    · rw [decide_eq_true (by omega), Bool.true_and]
      have e : (List.replicate k false ++ (topL 128 X).drop k).getD i false = (topL 128 X).getD i false := by
        simp only [List.getD]; rw [List.getElem?_append_right (by simp; omega), List.getElem?_drop]; simp only [List.length_replicate]; rw [show k + (i - k) = i from by omega]
      rw [e, topL_get _ _ _ hi]
theorem maskL_top (w n : Nat) (hw : w ≤ 128) (hn : n ≤ w) : maskL w n = topL 128 ((2 ^ n - 1) * 2 ^ (w - n)) := by
  apply eq_topL
  · exact maskL_length _ _
  · intro i hi
    unfold maskL
    simp only [List.getD, List.getElem?_map, List.getElem?_range hi, Option.map_some, Option.getD_some]
    rw [Nat.testBit_mul_two_pow, Nat.testBit_two_pow_sub_one, Bool.eq_iff_iff]
    simp only [Bool.and_eq_true, decide_eq_true_eq]
    omega
theorem notR_top {X : Nat} (h : X < 2 ^ 128) : notR (topL 128 X) 128 = topL 128 (2 ^ 128 - 1 - X) := by
  apply eq_topL
  · rw [notR_length _ _ (by rw [topL_length]; omega), topL_length]
  · intro i hi
    have e0 : 2 ^ 128 - 1 - X = 2 ^ 128 - (X + 1) := by omega
    rw [e0, Nat.testBit_two_pow_sub_succ h, decide_eq_true (by omega), Bool.true_and, ← topL_get 128 X i hi]
    unfold notR
    rw [List.take_of_length_le (by rw [topL_length]; omega), List.drop_of_length_le (by rw [topL_length]; omega), List.append_nil]
    simp only [List.getD, List.getElem?_map]
    rw [List.getElem?_eq_getElem (by rw [topL_length]; exact hi)]
    simp
theorem getD_set (l : List Bool) (j i : Nat) (b : Bool) (hj : j < l.length) : (l.set j b).getD i false = if i = j then b else l.getD i false := by
  simp only [List.getD, List.getElem?_set]
  by_cases h : j = i
  · subst h; simp [hj]
  · rw [if_neg h, if_neg (fun e => h e.symm)]
theorem smR_top (A B : Nat) (hA : A < 2 ^ 128) (hB : B < 2 ^ 128) : ∀ k, k ≤ 128 → cyR (topL 128 A) (topL 128 B) k = cyN A B k ∧
    ∀ i, i < 128 → (smR (topL 128 A) (topL 128 B) k).getD i false = (decide (127 - i < k) && ((A + B) % 2 ^ 128).testBit (127 - i)) := by
  intro k
  induction k with
  | zero =>
    intro _
    refine ⟨by rw [cyN_zero]; rfl, fun i hi => ?_⟩
    rw [decide_eq_false (by omega), Bool.false_and]
    simp only [smR, List.getD, List.getElem?_replicate, hi, if_true, Option.getD_some]
  | succ k ih =>
    intro hk
    obtain ⟨ih1, ih2⟩ := ih (by omega)
    have ga := topL_get 128 A (127 - k) (by omega)
    have gb := topL_get 128 B (127 - k) (by omega)
    rw [show 128 - 1 - (127 - k) = k from by omega] at ga gb
    constructor
    · simp only [cyR]
      rw [cyN_succ _ _ _ hA hB, ga, gb, ih1]
    · intro i hi
      simp only [smR]
      rw [getD_set _ _ _ _ (by rw [smR_length]; omega), ga, gb, ih1]
      by_cases h : i = 127 - k
      · subst h
        rw [if_pos rfl, decide_eq_true (by omega), Bool.true_and, show 127 - (127 - k) = k from by omega, sum_bit A B 128 k hA hB (by omega) (by omega)]
      · rw [if_neg h, ih2 i hi]
        by_cases h2 : 127 - i < k
        · rw [decide_eq_true h2, decide_eq_true (by omega)]
        · rw [decide_eq_false h2, decide_eq_false (by omega)]
theorem sum_top (A B : Nat) (hA : A < 2 ^ 128) (hB : B < 2 ^ 128) : smR (topL 128 A) (topL 128 B) 128 = topL 128 ((A + B) % 2 ^ 128) := by
  apply eq_topL
  · exact smR_length _ _ _
  · intro i hi
    rw [(smR_top A B hA hB 128 (by omega)).2 i hi, decide_eq_true (by omega), Bool.true_and]
theorem mod_succ (A m : Nat) : A % 2 ^ (m + 1) = A % 2 ^ m + 2 ^ m * (A.testBit m).toNat := by
  rw [Nat.pow_succ, Nat.mod_mul, Nat.testBit_eq_decide_div_mod_eq]
  by_cases h : A / 2 ^ m % 2 = 1
  · rw [h, decide_eq_true rfl]; rfl
  · rw [decide_eq_false h, show A / 2 ^ m % 2 = 0 from by omega]; rfl
theorem cmpL_top : ∀ (m A B : Nat), cmpL (topL m A) (topL m B) = cmpN (A % 2 ^ m) (B % 2 ^ m)
  | 0, A, B => by simp [topL, cmpL, cmpN, Nat.mod_one]
  | m + 1, A, B => by
    have ih := cmpL_top m A B
    rw [topL_cons, topL_cons]
    simp only [cmpL]
    rw [ih, mod_succ, mod_succ]
    have ha := Nat.mod_lt A (Nat.two_pow_pos m)
    have hb := Nat.mod_lt B (Nat.two_pow_pos m)
    cases A.testBit m <;> cases B.testBit m <;> simp only [Bool.toNat_true, Bool.toNat_false, Nat.mul_one, Nat.mul_zero, Nat.add_zero, if_true, if_false, reduceCtorEq]
    · unfold cmpN; rw [if_pos (by omega)]
    · unfold cmpN; rw [if_neg (by omega), if_pos (by omega)]
    · unfold cmpN
      repeat' split
      all_goals omega
end Go.Proofs.YtofnhgpiipmegaaDoor.PV
namespace Go.Proofs.YtofnhgpiipmegaaDoor.PV
open Go.RowKit Go.Proofs.YtofnhgpiipmegaaDoorW.PrintWords Go.Proofs.YtofnhgpiipmegaaDoorW.PrintLast Go.Proofs.YtofnhgpiipmegaaDoorW.PrintMore
set_option linter.unusedVariables false
set_option linter.unusedSimpArgs false
theorem awake_bits (k : Nat) (h : 40 ≤ k) : turnoutlaw01_awake.f k = some true := at_rounds (g := turnoutlaw01_awake.f) (fun k => turnoutlaw01_awake.mono k) h awake_f
section
variable {A B : Nat} (hA : A < 2 ^ 128) (hB : B < 2 ^ 128)
include hA
theorem lay_p : layL (pH A) (pL A) = topL 128 A := by rw [layL_top (pH_in hA) (pL_in A), V_p hA]
theorem refCut_in (n : Nat) (n1 : 1 ≤ n) (n2 : n ≤ 128) : turnoutref01_Cut.f (pH A) (pL A) n = some (pH (A % 2 ^ n), pL (A % 2 ^ n)) := by
  unfold turnoutref01_Cut.f
  have hm : A % 2 ^ n < 2 ^ 128 := Nat.lt_of_le_of_lt (Nat.mod_le _ _) hA
  rw [if_pos (by omega), lay_p hA, cutL_top _ _ (by omega), show 128 - (128 - ((n : Int)).toNat) = n from by omega, takeHi_top hm, takeLo_top]
theorem Cut_both (w : Int) : ∃ x y, value_Cut.f (pH A) (pL A) w = some (x, y) ∧ turnoutref01_Cut.f (pH A) (pL A) w = some (x, y) := by
  by_cases hw : 1 ≤ w ∧ w ≤ 128
  · obtain ⟨n, rfl⟩ : ∃ n : Nat, w = n := ⟨w.toNat, by omega⟩
    exact ⟨_, _, by rw [Cut_f _ _ (pH_in hA) (pL_in A) n (by omega) (by omega), V_p hA], refCut_in hA n (by omega) (by omega)⟩
  · refine ⟨0, 0, ?_, ?_⟩
    · unfold value_Cut.f; rw [isWidth_no hw]; rfl
    · unfold turnoutref01_Cut.f; rw [if_neg hw]
theorem Fits_both (w : Int) : ∃ v, value_Fits.f (pH A) (pL A) w = some v ∧ turnoutref01_Fits.f (pH A) (pL A) w = some v := by
  by_cases hw : 1 ≤ w ∧ w ≤ 128
  · obtain ⟨n, rfl⟩ : ∃ n : Nat, w = n := ⟨w.toNat, by omega⟩
    refine ⟨_, by rw [Fits_f _ _ (pH_in hA) (pL_in A) n (by omega) (by omega), V_p hA], ?_⟩
    unfold turnoutref01_Fits.f
    have hm : A % 2 ^ n < 2 ^ 128 := Nat.lt_of_le_of_lt (Nat.mod_le _ _) hA
    rw [width_yes hw, Option.bind_some, if_pos rfl, refCut_in hA n (by omega) (by omega), Option.bind_some]
    dsimp only
    congr 1
    rw [Bool.eq_iff_iff]
    simp only [Bool.and_eq_true, beq_iff_eq, decide_eq_true_eq]
    constructor
    · rintro ⟨e1, e2⟩
      rw [← p_inj hm hA e1 e2]
      exact Nat.mod_lt _ (Nat.two_pow_pos n)
    · intro h; rw [Nat.mod_eq_of_lt h]; exact ⟨rfl, rfl⟩
  · refine ⟨false, ?_, ?_⟩
    · unfold value_Fits.f; rw [isWidth_no hw]; rfl
    · unfold turnoutref01_Fits.f; rw [width_no hw]; rfl
theorem Bit_both (w m : Int) : ∃ v, value_Bit.f (pH A) (pL A) w m = some v ∧ turnoutref01_Bit.f (pH A) (pL A) w m = some v := by
  by_cases hw : 1 ≤ w ∧ w ≤ 128
  · obtain ⟨n, rfl⟩ : ∃ n : Nat, w = n := ⟨w.toNat, by omega⟩
    by_cases hm : 0 ≤ m ∧ m < n
    · obtain ⟨i, rfl⟩ : ∃ i : Nat, m = i := ⟨m.toNat, by omega⟩
      refine ⟨_, by rw [Bit_f _ _ (pH_in hA) (pL_in A) n i (by omega) (by omega), V_p hA], ?_⟩
      unfold turnoutref01_Bit.f
      rw [if_pos hw, if_pos hm, lay_p hA, topL_get _ _ _ (by omega)]
      congr 2; omega
    · refine ⟨false, ?_, ?_⟩
      · unfold value_Bit.f; rw [isWidth_yes hw, Option.bind_some, if_pos rfl]
        by_cases h0 : m < 0
        · rw [if_pos h0]
        · rw [if_neg h0, if_pos (by omega)]
      · unfold turnoutref01_Bit.f; rw [if_pos hw, if_neg hm]
  · refine ⟨false, ?_, ?_⟩
    · unfold value_Bit.f; rw [isWidth_no hw]; rfl
    · unfold turnoutref01_Bit.f; rw [if_neg hw]
omit hA in
theorem Mask_both (k : Nat) (w m : Int) : ∃ x y e, value_Mask.f (k + 1) w m = some (x, y, e) ∧ turnoutref01_Mask.f w m = some (x, y, e) := by
  by_cases hw : 1 ≤ w ∧ w ≤ 128
  · obtain ⟨n, rfl⟩ : ∃ n : Nat, w = n := ⟨w.toNat, by omega⟩
    by_cases hm : 0 ≤ m ∧ m ≤ n
    · obtain ⟨c, rfl⟩ : ∃ i : Nat, m = i := ⟨m.toNat, by omega⟩
      refine ⟨_, _, _, Mask_f k n c (by omega) (by omega) (by omega), ?_⟩
      unfold turnoutref01_Mask.f
      have hl : (2 ^ c - 1) * 2 ^ (n - c) < 2 ^ 128 := by
        have e : 2 ^ n = 2 ^ c * 2 ^ (n - c) := by rw [← Nat.pow_add, Nat.add_sub_cancel' (by omega)]
        have e2 := Nat.pow_le_pow_right (n := 2) (by decide) (show n ≤ 128 by omega)
        have e3 : (2 ^ c - 1) * 2 ^ (n - c) < 2 ^ c * 2 ^ (n - c) := Nat.mul_lt_mul_of_pos_right (by have := Nat.two_pow_pos c; omega) (Nat.two_pow_pos _)
        omega
      rw [if_pos hw, if_pos hm, Int.toNat_natCast, Int.toNat_natCast, maskL_top n c (by omega) (by omega), takeHi_top hl, takeLo_top]
    · refine ⟨0, 0, 1, ?_, ?_⟩
      · unfold value_Mask.f
        rw [isWidth_yes hw, Option.bind_some, if_pos rfl]
        by_cases h0 : m < 0
        · rw [if_pos h0]; simp only [value_Mask.j0, if_true]
        · rw [if_neg h0, decide_eq_true (by omega)]; simp only [value_Mask.j0, if_true]
      · unfold turnoutref01_Mask.f; rw [if_pos hw, if_neg hm]
  · refine ⟨0, 0, 10, ?_, ?_⟩
    · unfold value_Mask.f; rw [isWidth_no hw]; rfl
    · unfold turnoutref01_Mask.f; rw [if_neg hw]
omit hA in
theorem Most_both (k : Nat) (w : Int) : ∃ x y e, value_Most.f (k + 1) w = some (x, y, e) ∧ turnoutref01_Most.f w = some (x, y, e) := by
  obtain ⟨x, y, e, h1, h2⟩ := Mask_both k w w
  refine ⟨x, y, e, ?_, ?_⟩
  · unfold value_Most.f; rw [h1]; rfl
  · unfold turnoutref01_Most.f; rw [h2]; rfl
include hB
theorem Compare_both (k : Nat) : ∃ v, value_Compare.f (k + 3) (pH A) (pL A) (pH B) (pL B) = some v ∧ turnoutref01_Compare.f (pH A) (pL A) (pH B) (pL B) = some v := by
  refine ⟨_, Compare_f k A B hA hB, ?_⟩
  unfold turnoutref01_Compare.f
  rw [lay_p hA, lay_p hB, cmpL_top, Nat.mod_eq_of_lt hA, Nat.mod_eq_of_lt hB]
theorem refAdd_in (n : Nat) (n1 : 1 ≤ n) (n2 : n ≤ 128) : turnoutref01_Add.f (pH A) (pL A) (pH B) (pL B) n = some (pH ((A + B) % 2 ^ n), pL ((A + B) % 2 ^ n)) := by
  unfold turnoutref01_Add.f
  have hm : (A + B) % 2 ^ 128 < 2 ^ 128 := Nat.mod_lt _ (Nat.two_pow_pos 128)
  rw [lay_p hA, lay_p hB, sum_top A B hA hB, takeHi_top hm, takeLo_top, refCut_in hm n n1 n2, mod_mod_pow _ _ n2]
theorem Add_both (w : Int) : ∃ x y, value_Add.f (pH A) (pL A) (pH B) (pL B) w = some (x, y) ∧ turnoutref01_Add.f (pH A) (pL A) (pH B) (pL B) w = some (x, y) := by
  by_cases hw : 1 ≤ w ∧ w ≤ 128
  · obtain ⟨n, rfl⟩ : ∃ n : Nat, w = n := ⟨w.toNat, by omega⟩
    exact ⟨_, _, by rw [Add_f (pH_in hA) (pL_in A) (pH_in hB) (pL_in B) n (by omega) (by omega), V_p hA, V_p hB], refAdd_in hA hB n (by omega) (by omega)⟩
  · refine ⟨0, 0, ?_, ?_⟩
    · unfold value_Add.f; rw [if_pos (by simp [pH_in hA, pL_in, pH_in hB])]; unfold value_Cut.f; rw [isWidth_no hw]; rfl
    · unfold turnoutref01_Add.f turnoutref01_Cut.f; rw [if_neg hw]
omit hA in
theorem refNeg : turnoutref01_Add.f (takeHi (notR (layL (pH B) (pL B)) 128)) (takeLo (notR (layL (pH B) (pL B)) 128)) 0 1 128 = some (pH ((2 ^ 128 - B) % 2 ^ 128), pL ((2 ^ 128 - B) % 2 ^ 128)) := by
  have hm : 2 ^ 128 - 1 - B < 2 ^ 128 := by omega
  rw [lay_p hB, notR_top hB, takeHi_top hm, takeLo_top]
  have h1 : (1 : Nat) < 2 ^ 128 := by decide
  have := refAdd_in hm h1 128 (by decide) (by decide)
  rw [show pH 1 = 0 from by decide, show pL 1 = 1 from by decide] at this
  rw [show (128 : Int) = ((128 : Nat) : Int) from rfl, this, show 2 ^ 128 - 1 - B + 1 = 2 ^ 128 - B from by omega]
theorem Sub_both (w : Int) : ∃ x y, value_Sub.f (pH A) (pL A) (pH B) (pL B) w = some (x, y) ∧ turnoutref01_Sub.f (pH A) (pL A) (pH B) (pL B) w = some (x, y) := by
  have hm : (2 ^ 128 - B) % 2 ^ 128 < 2 ^ 128 := Nat.mod_lt _ (Nat.two_pow_pos 128)
  by_cases hw : 1 ≤ w ∧ w ≤ 128
  · obtain ⟨n, rfl⟩ : ∃ n : Nat, w = n := ⟨w.toNat, by omega⟩
    refine ⟨_, _, by rw [Sub_f (pH_in hA) (pL_in A) (pH_in hB) (pL_in B) n (by omega) (by omega), V_p hA, V_p hB], ?_⟩
    unfold turnoutref01_Sub.f
    rw [refNeg hB, Option.bind_some]
    dsimp only
    rw [refAdd_in hA hm n (by omega) (by omega)]
    have e : (A + (2 ^ 128 - B) % 2 ^ 128) % 2 ^ n = (A + (2 ^ 128 - B)) % 2 ^ n := by
      rw [Nat.add_mod, mod_mod_pow _ _ (by omega), ← Nat.add_mod]
    rw [e]
  · refine ⟨0, 0, ?_, ?_⟩
    · unfold value_Sub.f; rw [if_pos (by simp [pH_in hA, pL_in, pH_in hB])]; unfold value_Cut.f; rw [isWidth_no hw]; rfl
    · unfold turnoutref01_Sub.f
      rw [refNeg hB, Option.bind_some]
      unfold turnoutref01_Add.f turnoutref01_Cut.f
      rw [if_neg hw]
theorem common_go (n c : Nat) (n1 : 1 ≤ n) (n2 : n ≤ 128) (hc : c ≤ n) (same : ∀ i, i < c → A.testBit (n - 1 - i) = B.testBit (n - 1 - i)) (top : c < n → A.testBit (n - 1 - c) ≠ B.testBit (n - 1 - c)) :
    ∀ (d i k : Nat), i + d = c → d < k → turnoutref01_Common.l0 k n i (pH A) (pL A) (pH B) (pL B) = some (c : Int) := by
  have bit : ∀ (X : Nat) (hX : X < 2 ^ 128) (i : Nat), i < n → turnoutref01_Bit.f (pH X) (pL X) n i = some (X.testBit (n - 1 - i)) := by
    intro X hX i hi
    obtain ⟨v, h1, h2⟩ := Bit_both hX n i
    rw [Bit_f _ _ (pH_in hX) (pL_in X) n i n2 hi, V_p hX] at h1
    rw [h2, ← h1]
  intro d
  induction d with
  | zero =>
    intro i k hi hk
    obtain ⟨k, rfl⟩ : ∃ j, k = j + 1 := ⟨k - 1, by omega⟩
    have e : i = c := by omega
    subst e
    simp only [turnoutref01_Common.l0]
    rw [width_yes (by omega), Option.bind_some, if_pos rfl]
    by_cases h : i < n
    · rw [if_pos (by omega), bit A hA i h, Option.bind_some, bit B hB i h, Option.bind_some, if_neg (by rw [beq_iff_eq]; exact top h)]
    · rw [if_neg (by omega)]
  | succ d ih =>
    intro i k hi hk
    obtain ⟨k, rfl⟩ : ∃ j, k = j + 1 := ⟨k - 1, by omega⟩
    simp only [turnoutref01_Common.l0]
    rw [width_yes (by omega), Option.bind_some, if_pos rfl, if_pos (by omega), bit A hA i (by omega), Option.bind_some, bit B hB i (by omega), Option.bind_some, if_pos (by rw [beq_iff_eq]; exact same i (by omega)), wrap64_small (by omega) (by omega)]
    exact ih (i + 1) k (by omega) (by omega)
theorem Common_both (w : Int) : ∃ v, value_Common.f 200 (pH A) (pL A) (pH B) (pL B) w = some v ∧ turnoutref01_Common.f 200 (pH A) (pL A) (pH B) (pL B) w = some v := by
  by_cases hw : 1 ≤ w ∧ w ≤ 128
  · obtain ⟨n, rfl⟩ : ∃ n : Nat, w = n := ⟨w.toNat, by omega⟩
    have n1 : 1 ≤ n := by omega
    have n2 : n ≤ 128 := by omega
    refine ⟨_, by rw [Common_f (pH_in hA) (pL_in A) (pH_in hB) (pL_in B) 199 n n1 n2, V_p hA, V_p hB], ?_⟩
    have hR := Nat.mod_lt (A ^^^ B) (Nat.two_pow_pos n)
    have hb := bl_le hR
    have bits : ∀ j, j < n → ((A ^^^ B) % 2 ^ n).testBit j = (A.testBit j != B.testBit j) := by
      intro j hj
      rw [Nat.testBit_mod_two_pow, Nat.testBit_xor, decide_eq_true hj, Bool.true_and]
    unfold turnoutref01_Common.f
    refine common_go hA hB n (n - bl ((A ^^^ B) % 2 ^ n)) n1 n2 (by omega) ?_ ?_ (n - bl ((A ^^^ B) % 2 ^ n)) 0 200 (by omega) (by omega)
    · intro i hi
      have h1 := bits (n - 1 - i) (by omega)
      rw [test_lt (bl_hi ((A ^^^ B) % 2 ^ n)) (by omega)] at h1
      exact bne_eq_false_iff_eq.mp h1.symm
    · intro hc
      have hz : (A ^^^ B) % 2 ^ n ≠ 0 := by intro e; rw [e, bl_zero] at hc; omega
      have hp := bl_pos hz
      have h1 := bits (n - 1 - (n - bl ((A ^^^ B) % 2 ^ n))) (by omega)
      have ht := bl_top hz
      rw [show n - 1 - (n - bl ((A ^^^ B) % 2 ^ n)) = bl ((A ^^^ B) % 2 ^ n) - 1 from by omega] at h1 ⊢
      rw [ht] at h1
      intro e
      rw [e, bne_self_eq_false] at h1
      cases h1
  · refine ⟨0, ?_, ?_⟩
    · unfold value_Common.f; rw [isWidth_no hw]; rfl
    · unfold turnoutref01_Common.f
      rw [show (200 : Nat) = 199 + 1 from rfl, turnoutref01_Common.l0, width_no hw]; rfl
theorem ValueBits_nat (w m : Int) : turnoutlaw01_ValueBits.f 200 (pH A) (pL A) (pH B) (pL B) w m = some true := by
  obtain ⟨v1, p1, q1⟩ := Fits_both hA w
  obtain ⟨x2, y2, e2, p2, q2⟩ := Most_both 199 w
  obtain ⟨x3, y3, e3, p3, q3⟩ := Mask_both 199 w m
  obtain ⟨v4, p4, q4⟩ := Compare_both hA hB 197
  obtain ⟨x5, y5, p5, q5⟩ := Cut_both hA w
  obtain ⟨x6, y6, p6, q6⟩ := Add_both hA hB w
  obtain ⟨x7, y7, p7, q7⟩ := Sub_both hA hB w
  obtain ⟨v8, p8, q8⟩ := Bit_both hA w m
  obtain ⟨v9, p9, q9⟩ := Common_both hA hB w
  unfold turnoutlaw01_ValueBits.f value_And.f value_Or.f value_Xor.f turnoutref01_And.f turnoutref01_Or.f turnoutref01_Xor.f
  rw [awake_bits 200 (by decide), p1, p2, p3, p4, p5, p6, p7, p8, p9, q1, q2, q3, q4, q5, q6, q7, q8, q9]
  simp only [Option.bind_some, beq_self_eq_true, Bool.and_self, if_true]
end
/-- The plain law. -/
theorem ValueBits_pure (a0 a1 b0 b1 w m : Int) (h1 : inU a0 = true) (h2 : inU a1 = true) (h3 : inU b0 = true) (h4 : inU b1 = true) : ∃ k, turnoutlaw01_ValueBits.f k a0 a1 b0 b1 w m = some true := by
  have := ValueBits_nat (V_lt h1 h2) (V_lt h3 h4) w m
  rw [pH_V h1 h2, pL_V h1 h2, pH_V h3 h4, pL_V h3 h4] at this
  exact ⟨200, this⟩
end Go.Proofs.YtofnhgpiipmegaaDoor.PV
namespace Go.Proofs.YtofnhgpiipmegaaDoor.fnValueBits
open Go.ChangeShapes Go.WideShapes Go.ChangeAt Go.RowKit Go.Proofs.YtofnhgpiipmegaaDoor.PV
set_option maxRecDepth 100000 in
theorem contract (H : Type) (enc : TypeId × Value → H) (W : World) (base : Nat) (args : Array Value) (ds gs : List (DataW H)) (before : List MemPlace)
    (hval : ∀ (j : Nat) t v, Tryd.f7.params[j]? = some t → args[j]? = some v → Value.okWide Tryd.prog W .any base t v)
    (hW : DataW.Whole enc Tryd.prog Tryd.f7.params.toList Rows.valueBitsSpec.vars false W args.toList ds gs before) (hL : laidMetH Tryd.prog Rows.valueBitsRow.laid W) :
    Calls Tryd.prog 7 args W fun e W' => ∃ v, e = .returned v ∧ Rows.valueBitsSpec.post enc Tryd.prog Tryd.f7 false true false false W args v W' := by
  have hW' := hW
  obtain ⟨p, q, hA0, hV, rfl, hfz, hnd⟩ := hW
  have hA : DataW.TrodAll enc Tryd.prog W 0 (fun _ => true) true Tryd.f7.params.toList args.toList ds p := hA0
  have hp : Tryd.f7.params = #[24, 24, 3, 3] := by kernel_rfl
  rw [hp] at hA hval
  obtain ⟨v0, vs0, d0, ds0, p0, q0, hargs, rfl, rfl, h0, r0⟩ := trodAll_cons hA
  obtain ⟨v1, vs1, d1, ds1, p1, q1, rfl, rfl, rfl, h1, r1⟩ := trodAll_cons r0
  obtain ⟨v2, vs2, d2, ds2, p2, q2, rfl, rfl, rfl, h2, r2⟩ := trodAll_cons r1
  obtain ⟨v3, vs3, d3, ds3, p3, q3, rfl, rfl, rfl, h3, r3⟩ := trodAll_cons r2
  obtain ⟨rfl, rfl, rfl⟩ := trodAll_nil r3
  obtain rfl : args = #[v0, v1, v2, v3] := by cases args; simp_all
  obtain ⟨rfl, rfl⟩ := trodVars_none hV
  obtain ⟨x0, y0, rfl, rfl, rfl, wx0, wy0⟩ := open_bits (hval 0 24 v0 rfl rfl) h0
  obtain ⟨x1, y1, rfl, rfl, rfl, wx1, wy1⟩ := open_bits (hval 1 24 v1 rfl rfl) h1
  obtain ⟨n, rfl, rfl, rfl, wn⟩ := open_int u3 (hval 2 3 v2 rfl rfl) h2
  obtain ⟨m, rfl, rfl, rfl, wm⟩ := open_int u3 (hval 3 3 v3 rfl rfl) h3
  clear hA0
  simp only [List.append_nil] at hW'
  obtain ⟨k, hk⟩ := ValueBits_pure x0 y0 x1 y1 n m (wf_inU wx0) (wf_inU wy0) (wf_inU wx1) (wf_inU wy1)
  refine (turnoutlaw01_ValueBits.calls k x0 y0 x1 y1 n m true W (globals_of hL) hk ⟨rfl⟩).mono fun e W' ⟨he, hb⟩ => ?_
  subst he
  refine ⟨_, rfl, post_of_below (pr := []) (pa := []) (pv := []) hW' ?_ ?_ ?_ (fun _ h => by cases h) hb⟩
  · exact trodAll_cons_mk (shut_bool u4 _) trodAll_mk0
  · exact trodAll_cons_mk (shut_bits wx0 wy0) (trodAll_cons_mk (shut_bits wx1 wy1) (trodAll_cons_mk (shut_int u3 wn) (trodAll_cons_mk (shut_int u3 wm) trodAll_mk0)))
  · rfl
theorem reads (os : Os) {H : Type} (enc : TypeId × Value → H) : ∃ places, DataW.whole enc Tryd.prog ((laidWorld os).forCall (fun _ _ => 0) ⟨#[], #[.agg #[.int .u64 0, .int .u64 0], .agg #[.int .u64 0, .int .u64 0], .int .i64 0, .int .i64 0], []⟩).memory Tryd.f7.params.toList Rows.valueBitsSpec.vars false #[Value.agg #[.int .u64 0, .int .u64 0], .agg #[.int .u64 0, .int .u64 0], .int .i64 0, .int .i64 0].toList 8 = some ([.agg [.lit (.int .u64 0), .lit (.int .u64 0)], .agg [.lit (.int .u64 0), .lit (.int .u64 0)], .lit (.int .i64 0), .lit (.int .i64 0)], [], places) :=
  ⟨[], by kernel_rfl⟩
set_option maxRecDepth 100000 in
theorem lifted (os : Os) (started : os.Started) (H : Type) (enc : TypeId × Value → H) (F : Stop.Interp) :
    ReturnsInHanded {} Tryd.checked os 7 .any ((OpenSpec.ofChange Rows.valueBitsSpec).preRow enc Tryd.prog Tryd.f7 Rows.valueBitsRow.domain false Rows.valueBitsRow.laid) (((OpenSpec.ofChange Rows.valueBitsSpec).at F).post enc Tryd.prog Tryd.f7 false true false false) := by
  obtain ⟨places, hx⟩ := reads os enc
  refine returnsInHanded_of_row (C := Tryd.checked) (s := OpenSpec.ofChange Rows.valueBitsSpec) own started (by kernel_rfl) Tryd.func7
    (witness_zip (enc := enc) os #[.agg #[.int .u64 0, .int .u64 0], .agg #[.int .u64 0, .int .u64 0], .int .i64 0, .int .i64 0] (by kernel_rfl)
      (OpenSpec.preRow_of_cond 8 hx (by kernel_rfl) (fun k hk => by cases hk) (by kernel_rfl) (laid_metH os _))) ?_
  intro W base args ds gs before hval hW _ _ _ hL _ _
  exact contract H enc W base args ds gs before hval hW hL
theorem said : Rows.ValueBitsSaid :=
  OpenClaim.holds_of_cond 7 Tryd.f7 rfl rfl rfl rfl rfl rfl rfl ⟨rfl, rfl, rfl, rfl, rfl⟩ rfl rfl rfl rfl rfl (by kernel_rfl) Tryd.func7 (by kernel_rfl)
    (of_decide_eq_true (by kernel_rfl)) (by unfold Func.isWrapper; first | (rw [if_pos (by decide +kernel)]; kernel_rfl) | (rw [if_neg (by decide +kernel)]; exact ⟨rfl, rfl⟩))
    (fun os started H enc _ F => by rw [OpenClaim.pre_eq_preRow]; exact lifted os started H enc F)
theorem plain (f : FuncId) (fn : Func) (hf : Tryd.pinned.checked.prog.funcNamed "turnout/turnoutlaw01.ValueBits" = some f) (hfn : Tryd.pinned.checked.prog.funcs[f]? = some fn) :
    false = Tryd.pinned.checked.prog.looks [] ∧ ∀ (j : Nat) t, fn.params[j]? = some t → Tryd.pinned.checked.prog.wantsStandIn t = false := by
  obtain rfl : f = 7 := Option.some.inj ((show Tryd.prog.funcNamed "turnout/turnoutlaw01.ValueBits" = some 7 by kernel_rfl).symm.trans hf) |>.symm
  obtain rfl : fn = Tryd.f7 := (Option.some.inj (Tryd.func7.symm.trans hfn)).symm
  refine ⟨by kernel_rfl, fun j t ht => ?_⟩
  have hp : Tryd.f7.params = #[24, 24, 3, 3] := by kernel_rfl
  rw [hp] at ht
  have hm := Array.mem_of_getElem? ht
  simp only [List.mem_toArray, List.mem_cons, List.not_mem_nil, or_false] at hm
  rcases hm with rfl | rfl | rfl | rfl
  · exact (show Tryd.prog.wantsStandIn 24 = false by kernel_rfl)
  · exact (show Tryd.prog.wantsStandIn 24 = false by kernel_rfl)
  · exact (show Tryd.prog.wantsStandIn 3 = false by kernel_rfl)
  · exact (show Tryd.prog.wantsStandIn 3 = false by kernel_rfl)
/-- The card. -/
theorem card : Rows.ValueBitsCardSaid :=
  Claim7.holds_tied_plain_at .later [] _ _ _ _ said (fun _ h => by cases h) (by kernel_rfl) (fun _ h => by cases h) valueBits_row_tie rfl ⟨rfl, rfl⟩ (by kernel_rfl) rfl plain (by kernel_rfl)
end Go.Proofs.YtofnhgpiipmegaaDoor.fnValueBits
#print axioms Go.Proofs.YtofnhgpiipmegaaDoor.fnValueBits.card
