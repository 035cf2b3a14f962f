/- Plain facts: the reference's lists of bits are those of the numbers. -/
import Derived.Test.YtofnhgpiipmegaaDoorHDiv
import Derived.Test.YtofnhgpiipmegaaDoorHAdd
import Derived.Test.YtofnhgpiipmegaaDoorPVx2
import Derived.Test.YtofnhgpiipmegaaDoorPVx4
import Derived.Test.YtofnhgpiipmegaaDoorPVx5
import Derived.Test.YtofnhgpiipmegaaDoorPVx0
import Derived.Laws.Bits64
import Derived.Test.YtofnhgpiipmegaaDoorHRefAll
namespace Go.Proofs.YtofnhgpiipmegaaDoor.PV
open Go.RowKit Go.Proofs.YtofnhgpiipmegaaDoorW.PrintWords Go.Proofs.YtofnhgpiipmegaaDoorW.PrintLast Go.Proofs.YtofnhgpiipmegaaDoorW.PrintMore
set_option linter.unusedVariables false
set_option linter.unusedSimpArgs false
/-- The halves of a number below 2^128. -/
def pH (N : Nat) : Int := ((N / 2 ^ 64 : Nat) : Int)
def pL (N : Nat) : Int := ((N % 2 ^ 64 : Nat) : Int)
/-- The number of two halves. -/
def V (hi lo : Int) : Nat := 2 ^ 64 * hi.toNat + lo.toNat
theorem two64 : (2 : Nat) ^ 64 = 18446744073709551616 := by decide
theorem two128 : (2 : Nat) ^ 128 = 340282366920938463463374607431768211456 := by decide
theorem V_lt {hi lo : Int} (h : inU hi = true) (l : inU lo = true) : V hi lo < 2 ^ 128 := by
  have := inU_lo h; have := inU_hi h; have := inU_lo l; have := inU_hi l
  unfold V; rw [two64, two128]; omega
theorem pH_V {hi lo : Int} (h : inU hi = true) (l : inU lo = true) : pH (V hi lo) = hi := by
  have := inU_lo h; have := inU_hi h; have := inU_lo l; have := inU_hi l
  unfold pH V; rw [two64]; omega
theorem pL_V {hi lo : Int} (h : inU hi = true) (l : inU lo = true) : pL (V hi lo) = lo := by
  have := inU_lo h; have := inU_hi h; have := inU_lo l; have := inU_hi l
  unfold pL V; rw [two64]; omega
theorem V_p {N : Nat} (h : N < 2 ^ 128) : V (pH N) (pL N) = N := by
  unfold pH pL V; rw [two64]; omega
theorem pH_in {N : Nat} (h : N < 2 ^ 128) : inU (pH N) = true := by
  rw [two128] at h; unfold pH inU; rw [two64]; simp; omega
theorem pL_in (N : Nat) : inU (pL N) = true := by
  unfold pL inU; rw [two64]; simp; omega
/-- Two equal halves are one number. -/
theorem p_inj {M N : Nat} (hM : M < 2 ^ 128) (hN : N < 2 ^ 128) (h : pH M = pH N) (l : pL M = pL N) : M = N := by
  rw [← V_p hM, ← V_p hN, h, l]
theorem testBit_V (a b j : Nat) (hb : b < 2 ^ 64) : (2 ^ 64 * a + b).testBit j = if j < 64 then b.testBit j else a.testBit (j - 64) := Nat.testBit_two_pow_mul_add a hb j
theorem nat_of {x : Int} (h : inU x = true) : ∃ n : Nat, x = n ∧ n < 2 ^ 64 := ⟨x.toNat, by have := inU_lo h; omega, by have := inU_lo h; have := inU_hi h; rw [two64]; omega⟩
theorem V_nat (a b : Nat) : V (a : Int) (b : Int) = 2 ^ 64 * a + b := by simp [V]
theorem shl_n (a n : Nat) (hn : n ≤ 64) : shl .u64 (a : Int) (n : Int) = ((a <<< n % 2 ^ 64 : Nat) : Int) := by
  rw [shl_u _ _ hn, Nat.shiftLeft_eq, two64]; simp
theorem shr_n (a n : Nat) (hn : n ≤ 64) : shr .u64 (a : Int) (n : Int) = ((a >>> n : Nat) : Int) := by
  rw [shr_u _ _ hn, Nat.shiftRight_eq_div_pow]; simp
theorem or_n (a b : Nat) (ha : a < 2 ^ 64) (hb : b < 2 ^ 64) : Go.bits .or .u64 (a : Int) (b : Int) = ((a ||| b : Nat) : Int) := bits_or_u64_nat a b ha hb
theorem and_n (a b : Nat) (ha : a < 2 ^ 64) (hb : b < 2 ^ 64) : Go.bits .and .u64 (a : Int) (b : Int) = ((a &&& b : Nat) : Int) := bits_and_u64_nat a b ha hb
theorem lt_of_test {N w : Nat} (h : ∀ j, w ≤ j → N.testBit j = false) : N < 2 ^ w := Nat.lt_pow_two_of_testBit N h
theorem test_lt {N w j : Nat} (h : N < 2 ^ w) (hj : w ≤ j) : N.testBit j = false := Nat.testBit_lt_two_pow (Nat.lt_of_lt_of_le h (Nat.pow_le_pow_right (by decide) hj))
theorem wrap64_small {x : Int} (h0 : -1000 ≤ x) (h1 : x ≤ 1000) : wrap64 x = x := by unfold wrap64; omega
theorem right_f (hi lo : Int) (h : inU hi = true) (l : inU lo = true) (n : Nat) (hn : n ≤ 128) : value_right.f hi lo n = some (pH (V hi lo >>> n), pL (V hi lo >>> n)) := by
  obtain ⟨a, rfl, ha⟩ := nat_of h
  obtain ⟨b, rfl, hb⟩ := nat_of l
  unfold value_right.f
  rw [V_nat]
  by_cases h64 : 64 ≤ n
  · rw [if_pos (by omega), wrap64_small (by omega) (by omega), show ((n : Int) - 64) = ((n - 64 : Nat) : Int) from by omega, if_pos (by omega), shr_n a _ (by omega)]
    refine congrArg some (Prod.ext ?_ ?_)
    · unfold pH
      show (0 : Int) = _
      have : (2 ^ 64 * a + b) >>> n / 2 ^ 64 = 0 := by
        apply Nat.eq_of_testBit_eq; intro j
        rw [Nat.testBit_div_two_pow, Nat.testBit_shiftRight, testBit_V _ _ _ hb, if_neg (by omega), Nat.zero_testBit]
        exact test_lt ha (by omega)
      rw [this]; rfl
    · show ((a >>> (n - 64) : Nat) : Int) = pL _
      unfold pL
      refine congrArg Int.ofNat ?_
      apply Nat.eq_of_testBit_eq; intro j
      rw [Nat.testBit_shiftRight, Nat.testBit_mod_two_pow, Nat.testBit_shiftRight, testBit_V _ _ _ hb, if_neg (by omega)]
      by_cases hj : j < 64
      · have h9 : n - 64 + j = n + j - 64 := by omega
        simp [hj, h9]
      · simp [hj]; exact test_lt ha (by omega)
  · rw [if_neg (by omega), if_pos (by omega), wrap64_small (by omega) (by omega), show (64 - (n : Int)) = ((64 - n : Nat) : Int) from by omega, if_pos (by omega), shr_n a _ (by omega), shr_n b _ (by omega), shl_n a _ (by omega),
      or_n _ _ (lt_of_test fun j hj => by rw [Nat.testBit_shiftRight]; exact test_lt hb (by omega)) (Nat.mod_lt _ (by decide))]
    refine congrArg some (Prod.ext ?_ ?_)
    · unfold pH
      show ((a >>> n : Nat) : Int) = _
      refine congrArg (fun z : Nat => (z : Int)) ?_
      apply Nat.eq_of_testBit_eq; intro j
      rw [Nat.testBit_shiftRight, Nat.testBit_div_two_pow, Nat.testBit_shiftRight, testBit_V _ _ _ hb, if_neg (by omega)]
      congr 1
    · show ((b >>> n ||| a <<< (64 - n) % 2 ^ 64 : Nat) : Int) = pL _
      unfold pL
      refine congrArg Int.ofNat ?_
      apply Nat.eq_of_testBit_eq; intro j
      rw [Nat.testBit_or, Nat.testBit_shiftRight, Nat.testBit_mod_two_pow, Nat.testBit_shiftLeft, Nat.testBit_mod_two_pow, Nat.testBit_shiftRight, testBit_V _ _ _ hb]
      by_cases hj : j < 64
      · by_cases hj2 : n + j < 64
        · have : ¬ 64 - n ≤ j := by omega
          simp [hj, hj2, this]
        · have h3 : 64 - n ≤ j := by omega
          have h4 : b.testBit (n + j) = false := test_lt hb (by omega)
          have h5 : j - (64 - n) = n + j - 64 := by omega
          simp [hj, hj2, h3, h4, h5]
      · have h4 : b.testBit (n + j) = false := test_lt hb (by omega)
        simp [hj, h4]
theorem left_f (hi lo : Int) (h : inU hi = true) (l : inU lo = true) (n : Nat) (hn : n ≤ 128) : value_left.f hi lo n = some (pH ((V hi lo <<< n) % 2 ^ 128), pL ((V hi lo <<< n) % 2 ^ 128)) := by
  obtain ⟨a, rfl, ha⟩ := nat_of h
  obtain ⟨b, rfl, hb⟩ := nat_of l
  unfold value_left.f
  rw [V_nat]
  by_cases h64 : 64 ≤ n
  · rw [if_pos (by omega), wrap64_small (by omega) (by omega), show ((n : Int) - 64) = ((n - 64 : Nat) : Int) from by omega, if_pos (by omega), shl_n b _ (by omega)]
    refine congrArg some (Prod.ext ?_ ?_)
    · unfold pH
      show ((b <<< (n - 64) % 2 ^ 64 : Nat) : Int) = _
      refine congrArg (fun z : Nat => (z : Int)) ?_
      apply Nat.eq_of_testBit_eq; intro j
      rw [Nat.testBit_mod_two_pow, Nat.testBit_shiftLeft, Nat.testBit_div_two_pow, Nat.testBit_mod_two_pow, Nat.testBit_shiftLeft, testBit_V _ _ _ hb]
      by_cases hj : j < 64
      · have h1 : 64 + j < 128 := by omega
        by_cases h2 : n - 64 ≤ j
        · have h3 : n ≤ 64 + j := by omega
          have h4 : 64 + j - n < 64 := by omega
          have h5 : j - (n - 64) = 64 + j - n := by omega
          have h6 : n ≤ j + 64 := by omega
          have h7 : j + 64 - n < 64 := by omega
          have h8 : j + 64 < 128 := by omega
          have h9 : j - (n - 64) = j + 64 - n := by omega
          simp [hj, h1, h2, h3, h4, h6, h7, h8, h9]
        · have h3 : ¬ n ≤ 64 + j := by omega
          have h6 : ¬ n ≤ j + 64 := by omega
          simp [hj, h1, h2, h3, h6]
      · have h1 : ¬ 64 + j < 128 := by omega
        have h2 : ¬ j + 64 < 128 := by omega
        simp [hj, h1, h2]
    · unfold pL
      show (0 : Int) = _
      have : (2 ^ 64 * a + b) <<< n % 2 ^ 128 % 2 ^ 64 = 0 := by
        apply Nat.eq_of_testBit_eq; intro j
        rw [Nat.testBit_mod_two_pow, Nat.testBit_mod_two_pow, Nat.testBit_shiftLeft, Nat.zero_testBit]
        by_cases hj : j < 64
        · have h3 : ¬ n ≤ j := by omega
          simp [h3]
        · simp [hj]
      rw [this]; rfl
  · rw [if_neg (by omega), if_pos (by omega), wrap64_small (by omega) (by omega), show (64 - (n : Int)) = ((64 - n : Nat) : Int) from by omega, if_pos (by omega), shl_n a _ (by omega), shr_n b _ (by omega), shl_n b _ (by omega),
      or_n _ _ (Nat.mod_lt _ (by decide)) (lt_of_test fun j hj => by rw [Nat.testBit_shiftRight]; exact test_lt hb (by omega))]
    refine congrArg some (Prod.ext ?_ ?_)
    · unfold pH
      show ((a <<< n % 2 ^ 64 ||| b >>> (64 - n) : Nat) : Int) = _
      refine congrArg (fun z : Nat => (z : Int)) ?_
      apply Nat.eq_of_testBit_eq; intro j
      rw [Nat.testBit_or, Nat.testBit_mod_two_pow, Nat.testBit_shiftLeft, Nat.testBit_shiftRight, Nat.testBit_div_two_pow, Nat.testBit_mod_two_pow, Nat.testBit_shiftLeft, testBit_V _ _ _ hb]
      by_cases hj : j < 64
      · have h8 : j + 64 < 128 := by omega
        have h6 : n ≤ j + 64 := by omega
        by_cases h2 : n ≤ j
        · have h4 : b.testBit (64 - n + j) = false := test_lt hb (by omega)
          have h7 : ¬ j + 64 - n < 64 := by omega
          have h9 : j + 64 - n - 64 = j - n := by omega
          simp [hj, h2, h4, h8, h6, h7, h9]
        · have h7 : j + 64 - n < 64 := by omega
          have h9 : 64 - n + j = j + 64 - n := by omega
          simp [hj, h2, h8, h6, h7, h9]
      · have h8 : ¬ j + 64 < 128 := by omega
        have h4 : b.testBit (64 - n + j) = false := test_lt hb (by omega)
        simp [hj, h4, h8]
    · show ((b <<< n % 2 ^ 64 : Nat) : Int) = pL _
      unfold pL
      refine congrArg Int.ofNat ?_
      apply Nat.eq_of_testBit_eq; intro j
      rw [Nat.testBit_mod_two_pow, Nat.testBit_shiftLeft, Nat.testBit_mod_two_pow, Nat.testBit_mod_two_pow, Nat.testBit_shiftLeft, testBit_V _ _ _ hb]
      by_cases hj : j < 64
      · have h8 : j < 128 := by omega
        have h7 : j - n < 64 := by omega
        simp [hj, h8, h7]
      · simp [hj]
theorem isWidth_yes {w : Int} (h : 1 ≤ w ∧ w ≤ 128) : value_isWidth.f w = some true := by
  unfold value_isWidth.f; rw [if_pos h.1]; simp [h.2]
theorem ones_f (n : Nat) (hn : n ≤ 128) : value_ones.f n = some (pH (2 ^ n - 1), pL (2 ^ n - 1)) := by
  have e : V 18446744073709551615 18446744073709551615 = 2 ^ 128 - 1 := by rw [two128]; decide
  have hu : inU 18446744073709551615 = true := by decide
  unfold value_ones.f
  rw [wrap64_small (by omega) (by omega), show (128 - (n : Int)) = ((128 - n : Nat) : Int) from by omega, right_f _ _ hu hu _ (by omega), e]
  have e2 : (2 ^ 128 - 1) >>> (128 - n) = 2 ^ n - 1 := by
    apply Nat.eq_of_testBit_eq; intro j
    rw [Nat.testBit_shiftRight, Nat.testBit_two_pow_sub_one, Nat.testBit_two_pow_sub_one]
    apply decide_eq_decide.2; omega
  rw [e2]; rfl
/-- Halves of a bitwise and. -/
theorem and_p (M N : Nat) (hM : M < 2 ^ 128) (hN : N < 2 ^ 128) : Go.bits .and .u64 (pH M) (pH N) = pH (M &&& N) ∧ Go.bits .and .u64 (pL M) (pL N) = pL (M &&& N) := by
  have d : ∀ X : Nat, X < 2 ^ 128 → X / 2 ^ 64 < 2 ^ 64 := fun X hX => by rw [two128] at hX; rw [two64]; omega
  constructor
  · unfold pH
    rw [and_n _ _ (d M hM) (d N hN)]
    refine congrArg (fun z : Nat => (z : Int)) ?_
    apply Nat.eq_of_testBit_eq; intro j
    simp only [Nat.testBit_and, Nat.testBit_div_two_pow]
  · unfold pL
    rw [and_n _ _ (Nat.mod_lt _ (by decide)) (Nat.mod_lt _ (by decide))]
    refine congrArg (fun z : Nat => (z : Int)) ?_
    apply Nat.eq_of_testBit_eq; intro j
    simp only [Nat.testBit_and, Nat.testBit_mod_two_pow]
    by_cases hj : j < 64 <;> simp [hj]
theorem Cut_f (hi lo : Int) (h : inU hi = true) (l : inU lo = true) (n : Nat) (h1 : 1 ≤ n) (h2 : n ≤ 128) : value_Cut.f hi lo n = some (pH (V hi lo % 2 ^ n), pL (V hi lo % 2 ^ n)) := by
  unfold value_Cut.f
  rw [isWidth_yes (by omega)]
  simp only [Option.bind_some, if_true]
  rw [ones_f n h2]
  simp only [Option.bind_some]
  unfold value_And.f
  simp only [Option.bind_some]
  have hV := V_lt h l
  have hO : 2 ^ n - 1 < 2 ^ 128 := lt_of_test fun j hj => by rw [Nat.testBit_two_pow_sub_one]; simp; omega
  obtain ⟨e1, e2⟩ := and_p (V hi lo) (2 ^ n - 1) hV hO
  rw [pH_V h l] at e1
  rw [pL_V h l] at e2
  rw [e1, e2, Nat.and_two_pow_sub_one_eq_mod]
theorem Fits_f (hi lo : Int) (h : inU hi = true) (l : inU lo = true) (n : Nat) (h1 : 1 ≤ n) (h2 : n ≤ 128) : value_Fits.f hi lo n = some (decide (V hi lo < 2 ^ n)) := by
  unfold value_Fits.f
  rw [isWidth_yes (by omega)]
  simp only [Option.bind_some, if_true]
  rw [right_f hi lo h l n h2]
  simp only [Option.bind_some]
  have hV := V_lt h l
  have hS : V hi lo >>> n < 2 ^ 128 := by rw [Nat.shiftRight_eq_div_pow]; exact Nat.lt_of_le_of_lt (Nat.div_le_self _ _) hV
  congr 1
  rw [Bool.eq_iff_iff]
  simp only [Bool.and_eq_true, beq_iff_eq, decide_eq_true_eq]
  constructor
  · rintro ⟨e1, e2⟩
    have : V hi lo >>> n = 0 := p_inj hS (by decide) (by rw [e1]; rfl) (by rw [e2]; rfl)
    rw [Nat.shiftRight_eq_div_pow] at this
    exact (Nat.div_eq_zero_iff_lt (Nat.two_pow_pos n)).1 this
  · intro e
    have : V hi lo >>> n = 0 := by rw [Nat.shiftRight_eq_div_pow]; exact Nat.div_eq_of_lt e
    rw [this]; exact ⟨rfl, rfl⟩
end Go.Proofs.YtofnhgpiipmegaaDoor.PV
namespace Go.Proofs.YtofnhgpiipmegaaDoor.PV
open Go.RowKit Go.Proofs.YtofnhgpiipmegaaDoorW.PrintWords Go.Proofs.YtofnhgpiipmegaaDoorW.PrintLast Go.Proofs.YtofnhgpiipmegaaDoorW.PrintMore
set_option linter.unusedVariables false
set_option linter.unusedSimpArgs false
end Go.Proofs.YtofnhgpiipmegaaDoor.PV
namespace Go.Proofs.YtofnhgpiipmegaaDoor.PV
open Go.RowKit Go.Proofs.YtofnhgpiipmegaaDoorW.PrintWords Go.Proofs.YtofnhgpiipmegaaDoorW.PrintLast Go.Proofs.YtofnhgpiipmegaaDoorW.PrintMore
set_option linter.unusedVariables false
set_option linter.unusedSimpArgs false
end Go.Proofs.YtofnhgpiipmegaaDoor.PV
namespace Go.Proofs.YtofnhgpiipmegaaDoor.PV
open Go.RowKit Go.Proofs.YtofnhgpiipmegaaDoorW.PrintWords Go.Proofs.YtofnhgpiipmegaaDoorW.PrintLast Go.Proofs.YtofnhgpiipmegaaDoorW.PrintMore
set_option linter.unusedVariables false
set_option linter.unusedSimpArgs false
/-- The lowest m bytes of a number, the highest first. -/
def beL : Nat → Nat → List Int
  | 0, _ => []
  | m + 1, X => ((X / 256 ^ m % 256 : Nat) : Int) :: beL m X
theorem beL_length : ∀ (m X : Nat), (beL m X).length = m
  | 0, _ => rfl
  | m + 1, X => by simp [beL, beL_length m X]
theorem set_rep (i d : Nat) (x : Int) (l : List Int) : (List.replicate (d + 1) (0 : Int) ++ l).set d x = List.replicate d 0 ++ x :: l := by
  induction d with
  | zero => rfl
  | succ d ih =>
    rw [List.replicate_succ, List.cons_append, List.set_cons_succ, ih]
    rfl
theorem byte_of (X i : Nat) (h : i ≤ 15) : pL (X >>> (8 * i)) % 256 = ((X / 256 ^ i % 256 : Nat) : Int) := by
  unfold pL
  rw [Nat.shiftRight_eq_div_pow, Nat.pow_mul, show (2 : Nat) ^ 8 = 256 from rfl]
  have : ((X / 256 ^ i % 2 ^ 64 : Nat) : Int) % 256 = ((X / 256 ^ i % 2 ^ 64 % 256 : Nat) : Int) := by omega
  rw [this, Nat.mod_mod_of_dvd _ (by decide)]
theorem Bytes_l0 (hi lo : Int) (h1 : inU hi = true) (h2 : inU lo = true) (m : Nat) (hm : m ≤ 16) : ∀ (d i k : Nat), i + d = m → d < k →
    value_Bytes.l0 k (List.replicate d 0 ++ beL i (V hi lo)) m i hi lo = some (strOfNums (beL m (V hi lo)), 0) := by
  intro d
  induction d with
  | zero =>
    intro i k hi' hk
    obtain ⟨k, rfl⟩ : ∃ j, k = j + 1 := ⟨k - 1, by omega⟩
    simp only [value_Bytes.l0]
    rw [if_neg (by omega)]
    have : i = m := by omega
    subst this
    simp
  | succ d ih =>
    intro i k hi' hk
    obtain ⟨k, rfl⟩ : ∃ j, k = j + 1 := ⟨k - 1, by omega⟩
    simp only [value_Bytes.l0]
    have hl : (List.replicate (d + 1) (0 : Int) ++ beL i (V hi lo)).length = m := by simp [beL_length]; omega
    rw [if_pos (by omega), hl, wrap64_small (by omega) (by omega), show ((8 : Int) * i) = ((8 * i : Nat) : Int) from by omega, right_f _ _ h1 h2 _ (by omega), Option.bind_some]
    have e1 : wrap64 (wrap64 ((m : Int) - 1) - i) = (d : Int) := by unfold wrap64; omega
    have e2 : wrap64 ((i : Int) + 1) = ((i + 1 : Nat) : Int) := by unfold wrap64; omega
    rw [e1, e2, if_pos (by omega), if_pos (by omega)]
    dsimp only
    rw [byte_of _ _ (by omega), Int.toNat_natCast, set_rep i d]
    exact ih (i + 1) k (by omega) (by omega)
theorem Bytes_f (hi lo : Int) (h1 : inU hi = true) (h2 : inU lo = true) (n k : Nat) (n1 : 1 ≤ n) (n2 : n ≤ 128) (hf : V hi lo < 2 ^ n) (hk : 17 ≤ k) :
    value_Bytes.f k hi lo n = some (strOfNums (beL ((n + 7) / 8) (V hi lo)), 0) := by
  unfold value_Bytes.f
  rw [isWidth_yes (by omega), Option.bind_some, if_pos rfl, Fits_f _ _ h1 h2 n n1 n2, decide_eq_true hf, Option.bind_some, if_pos rfl]
  have e : wrap64 (Int.tdiv (wrap64 ((n : Int) + 7)) 8) = (((n + 7) / 8 : Nat) : Int) := by
    rw [wrap64_small (x := (n : Int) + 7) (by omega) (by omega), show ((n : Int) + 7) = ((n + 7 : Nat) : Int) from by omega]
    rw [show (8 : Int) = ((8 : Nat) : Int) from rfl, ← Int.ofNat_tdiv, wrap64_small (by omega) (by omega)]
  rw [e, if_pos (by omega), if_pos (by omega), Option.bind_some, Int.toNat_natCast, List.length_replicate]
  have := Bytes_l0 hi lo h1 h2 ((n + 7) / 8) (by omega) ((n + 7) / 8) 0 k (by omega) (by omega)
  simpa [beL] using this
theorem bytes_eq (s : ByteArray) : s.toList = s.data.toList := ByteArray.toList_eq s
end Go.Proofs.YtofnhgpiipmegaaDoor.PV
namespace Go.Proofs.YtofnhgpiipmegaaDoor.PV
open Go.RowKit Go.Proofs.YtofnhgpiipmegaaDoorW.PrintWords Go.Proofs.YtofnhgpiipmegaaDoorW.PrintLast Go.Proofs.YtofnhgpiipmegaaDoorW.PrintMore
set_option linter.unusedVariables false
set_option linter.unusedSimpArgs false
end Go.Proofs.YtofnhgpiipmegaaDoor.PV
