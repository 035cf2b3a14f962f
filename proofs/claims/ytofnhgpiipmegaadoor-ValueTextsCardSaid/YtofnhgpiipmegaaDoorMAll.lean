/- Plain facts: the reference's lists of bits are those of the numbers. -/
import Derived.Test.YtofnhgpiipmegaaDoorHDiv
import Derived.Test.YtofnhgpiipmegaaDoorHAdd
import Derived.Test.YtofnhgpiipmegaaDoorPVx2
import Derived.Test.YtofnhgpiipmegaaDoorPVx4
import Derived.Test.YtofnhgpiipmegaaDoorPVx5
import Derived.Test.YtofnhgpiipmegaaDoorPVx0
import Derived.Laws.Bits64
import Derived.Test.YtofnhgpiipmegaaDoorHRefAll
namespace Go.Proofs.YtofnhgpiipmegaaDoor.PV
open Go.RowKit Go.Proofs.YtofnhgpiipmegaaDoorW.PrintWords Go.Proofs.YtofnhgpiipmegaaDoorW.PrintLast Go.Proofs.YtofnhgpiipmegaaDoorW.PrintMore
set_option linter.unusedVariables false
set_option linter.unusedSimpArgs false
/-- The halves of a number below 2^128. -/
def pH (N : Nat) : Int := ((N / 2 ^ 64 : Nat) : Int)
def pL (N : Nat) : Int := ((N % 2 ^ 64 : Nat) : Int)
/-- The number of two halves. -/
def V (hi lo : Int) : Nat := 2 ^ 64 * hi.toNat + lo.toNat
theorem two64 : (2 : Nat) ^ 64 = 18446744073709551616 := by decide
theorem two128 : (2 : Nat) ^ 128 = 340282366920938463463374607431768211456 := by decide
theorem V_lt {hi lo : Int} (h : inU hi = true) (l : inU lo = true) : V hi lo < 2 ^ 128 := by
  have := inU_lo h; have := inU_hi h; have := inU_lo l; have := inU_hi l
  unfold V; rw [two64, two128]; omega
theorem pH_V {hi lo : Int} (h : inU hi = true) (l : inU lo = true) : pH (V hi lo) = hi := by
  have := inU_lo h; have := inU_hi h; have := inU_lo l; have := inU_hi l
  unfold pH V; rw [two64]; omega
theorem pL_V {hi lo : Int} (h : inU hi = true) (l : inU lo = true) : pL (V hi lo) = lo := by
  have := inU_lo h; have := inU_hi h; have := inU_lo l; have := inU_hi l
  unfold pL V; rw [two64]; omega
theorem V_p {N : Nat} (h : N < 2 ^ 128) : V (pH N) (pL N) = N := by
  unfold pH pL V; rw [two64]; omega
theorem pH_in {N : Nat} (h : N < 2 ^ 128) : inU (pH N) = true := by
  rw [two128] at h; unfold pH inU; rw [two64]; simp; omega
theorem pL_in (N : Nat) : inU (pL N) = true := by
  unfold pL inU; rw [two64]; simp; omega
/-- Two equal halves are one number. -/
theorem p_inj {M N : Nat} (hM : M < 2 ^ 128) (hN : N < 2 ^ 128) (h : pH M = pH N) (l : pL M = pL N) : M = N := by
  rw [← V_p hM, ← V_p hN, h, l]
theorem testBit_V (a b j : Nat) (hb : b < 2 ^ 64) : (2 ^ 64 * a + b).testBit j = if j < 64 then b.testBit j else a.testBit (j - 64) := Nat.testBit_two_pow_mul_add a hb j
theorem nat_of {x : Int} (h : inU x = true) : ∃ n : Nat, x = n ∧ n < 2 ^ 64 := ⟨x.toNat, by have := inU_lo h; omega, by have := inU_lo h; have := inU_hi h; rw [two64]; omega⟩
theorem V_nat (a b : Nat) : V (a : Int) (b : Int) = 2 ^ 64 * a + b := by simp [V]
theorem shl_n (a n : Nat) (hn : n ≤ 64) : shl .u64 (a : Int) (n : Int) = ((a <<< n % 2 ^ 64 : Nat) : Int) := by
  rw [shl_u _ _ hn, Nat.shiftLeft_eq, two64]; simp
theorem shr_n (a n : Nat) (hn : n ≤ 64) : shr .u64 (a : Int) (n : Int) = ((a >>> n : Nat) : Int) := by
  rw [shr_u _ _ hn, Nat.shiftRight_eq_div_pow]; simp
theorem or_n (a b : Nat) (ha : a < 2 ^ 64) (hb : b < 2 ^ 64) : Go.bits .or .u64 (a : Int) (b : Int) = ((a ||| b : Nat) : Int) := bits_or_u64_nat a b ha hb
theorem and_n (a b : Nat) (ha : a < 2 ^ 64) (hb : b < 2 ^ 64) : Go.bits .and .u64 (a : Int) (b : Int) = ((a &&& b : Nat) : Int) := bits_and_u64_nat a b ha hb
theorem lt_of_test {N w : Nat} (h : ∀ j, w ≤ j → N.testBit j = false) : N < 2 ^ w := Nat.lt_pow_two_of_testBit N h
theorem test_lt {N w j : Nat} (h : N < 2 ^ w) (hj : w ≤ j) : N.testBit j = false := Nat.testBit_lt_two_pow (Nat.lt_of_lt_of_le h (Nat.pow_le_pow_right (by decide) hj))
theorem wrap64_small {x : Int} (h0 : -1000 ≤ x) (h1 : x ≤ 1000) : wrap64 x = x := by unfold wrap64; omega
theorem right_f (hi lo : Int) (h : inU hi = true) (l : inU lo = true) (n : Nat) (hn : n ≤ 128) : value_right.f hi lo n = some (pH (V hi lo >>> n), pL (V hi lo >>> n)) := by
  obtain ⟨a, rfl, ha⟩ := nat_of h
  obtain ⟨b, rfl, hb⟩ := nat_of l
  unfold value_right.f
  rw [V_nat]
  by_cases h64 : 64 ≤ n
  · rw [if_pos (by omega), wrap64_small (by omega) (by omega), show ((n : Int) - 64) = ((n - 64 : Nat) : Int) from by omega, if_pos (by omega), shr_n a _ (by omega)]
    refine congrArg some (Prod.ext ?_ ?_)
    · unfold pH
      show (0 : Int) = _
      have : (2 ^ 64 * a + b) >>> n / 2 ^ 64 = 0 := by
        apply Nat.eq_of_testBit_eq; intro j
        rw [Nat.testBit_div_two_pow, Nat.testBit_shiftRight, testBit_V _ _ _ hb, if_neg (by omega), Nat.zero_testBit]
        exact test_lt ha (by omega)
      rw [this]; rfl
    · show ((a >>> (n - 64) : Nat) : Int) = pL _
      unfold pL
      refine congrArg Int.ofNat ?_
      apply Nat.eq_of_testBit_eq; intro j
      rw [Nat.testBit_shiftRight, Nat.testBit_mod_two_pow, Nat.testBit_shiftRight, testBit_V _ _ _ hb, if_neg (by omega)]
      by_cases hj : j < 64
      · have h9 : n - 64 + j = n + j - 64 := by omega
        simp [hj, h9]
      · simp [hj]; exact test_lt ha (by omega)
  · rw [if_neg (by omega), if_pos (by omega), wrap64_small (by omega) (by omega), show (64 - (n : Int)) = ((64 - n : Nat) : Int) from by omega, if_pos (by omega), shr_n a _ (by omega), shr_n b _ (by omega), shl_n a _ (by omega),
      or_n _ _ (lt_of_test fun j hj => by rw [Nat.testBit_shiftRight]; exact test_lt hb (by omega)) (Nat.mod_lt _ (by decide))]
    refine congrArg some (Prod.ext ?_ ?_)
    · unfold pH
      show ((a >>> n : Nat) : Int) = _
      refine congrArg (fun z : Nat => (z : Int)) ?_
      apply Nat.eq_of_testBit_eq; intro j
      rw [Nat.testBit_shiftRight, Nat.testBit_div_two_pow, Nat.testBit_shiftRight, testBit_V _ _ _ hb, if_neg (by omega)]
      congr 1
    · show ((b >>> n ||| a <<< (64 - n) % 2 ^ 64 : Nat) : Int) = pL _
      unfold pL
      refine congrArg Int.ofNat ?_
      apply Nat.eq_of_testBit_eq; intro j
      rw [Nat.testBit_or, Nat.testBit_shiftRight, Nat.testBit_mod_two_pow, Nat.testBit_shiftLeft, Nat.testBit_mod_two_pow, Nat.testBit_shiftRight, testBit_V _ _ _ hb]
      by_cases hj : j < 64
      · by_cases hj2 : n + j < 64
        · have : ¬ 64 - n ≤ j := by omega
          simp [hj, hj2, this]
        · have h3 : 64 - n ≤ j := by omega
          have h4 : b.testBit (n + j) = false := test_lt hb (by omega)
          have h5 : j - (64 - n) = n + j - 64 := by omega
          simp [hj, hj2, h3, h4, h5]
      · have h4 : b.testBit (n + j) = false := test_lt hb (by omega)
        simp [hj, h4]
theorem left_f (hi lo : Int) (h : inU hi = true) (l : inU lo = true) (n : Nat) (hn : n ≤ 128) : value_left.f hi lo n = some (pH ((V hi lo <<< n) % 2 ^ 128), pL ((V hi lo <<< n) % 2 ^ 128)) := by
  obtain ⟨a, rfl, ha⟩ := nat_of h
  obtain ⟨b, rfl, hb⟩ := nat_of l
  unfold value_left.f
  rw [V_nat]
  by_cases h64 : 64 ≤ n
  · rw [if_pos (by omega), wrap64_small (by omega) (by omega), show ((n : Int) - 64) = ((n - 64 : Nat) : Int) from by omega, if_pos (by omega), shl_n b _ (by omega)]
    refine congrArg some (Prod.ext ?_ ?_)
    · unfold pH
      show ((b <<< (n - 64) % 2 ^ 64 : Nat) : Int) = _
      refine congrArg (fun z : Nat => (z : Int)) ?_
      apply Nat.eq_of_testBit_eq; intro j
      rw [Nat.testBit_mod_two_pow, Nat.testBit_shiftLeft, Nat.testBit_div_two_pow, Nat.testBit_mod_two_pow, Nat.testBit_shiftLeft, testBit_V _ _ _ hb]
      by_cases hj : j < 64
      · have h1 : 64 + j < 128 := by omega
        by_cases h2 : n - 64 ≤ j
        · have h3 : n ≤ 64 + j := by omega
          have h4 : 64 + j - n < 64 := by omega
          have h5 : j - (n - 64) = 64 + j - n := by omega
          have h6 : n ≤ j + 64 := by omega
          have h7 : j + 64 - n < 64 := by omega
          have h8 : j + 64 < 128 := by omega
          have h9 : j - (n - 64) = j + 64 - n := by omega
          simp [hj, h1, h2, h3, h4, h6, h7, h8, h9]
        · have h3 : ¬ n ≤ 64 + j := by omega
          have h6 : ¬ n ≤ j + 64 := by omega
          simp [hj, h1, h2, h3, h6]
      · have h1 : ¬ 64 + j < 128 := by omega
        have h2 : ¬ j + 64 < 128 := by omega
        simp [hj, h1, h2]
    · unfold pL
      show (0 : Int) = _
      have : (2 ^ 64 * a + b) <<< n % 2 ^ 128 % 2 ^ 64 = 0 := by
        apply Nat.eq_of_testBit_eq; intro j
        rw [Nat.testBit_mod_two_pow, Nat.testBit_mod_two_pow, Nat.testBit_shiftLeft, Nat.zero_testBit]
        by_cases hj : j < 64
        · have h3 : ¬ n ≤ j := by omega
          simp [h3]
        · simp [hj]
      rw [this]; rfl
  · rw [if_neg (by omega), if_pos (by omega), wrap64_small (by omega) (by omega), show (64 - (n : Int)) = ((64 - n : Nat) : Int) from by omega, if_pos (by omega), shl_n a _ (by omega), shr_n b _ (by omega), shl_n b _ (by omega),
      or_n _ _ (Nat.mod_lt _ (by decide)) (lt_of_test fun j hj => by rw [Nat.testBit_shiftRight]; exact test_lt hb (by omega))]
    refine congrArg some (Prod.ext ?_ ?_)
    · unfold pH
      show ((a <<< n % 2 ^ 64 ||| b >>> (64 - n) : Nat) : Int) = _
      refine congrArg (fun z : Nat => (z : Int)) ?_
      apply Nat.eq_of_testBit_eq; intro j
      rw [Nat.testBit_or, Nat.testBit_mod_two_pow, Nat.testBit_shiftLeft, Nat.testBit_shiftRight, Nat.testBit_div_two_pow, Nat.testBit_mod_two_pow, Nat.testBit_shiftLeft, testBit_V _ _ _ hb]
      by_cases hj : j < 64
      · have h8 : j + 64 < 128 := by omega
        have h6 : n ≤ j + 64 := by omega
        by_cases h2 : n ≤ j
        · have h4 : b.testBit (64 - n + j) = false := test_lt hb (by omega)
          have h7 : ¬ j + 64 - n < 64 := by omega
          have h9 : j + 64 - n - 64 = j - n := by omega
          simp [hj, h2, h4, h8, h6, h7, h9]
        · have h7 : j + 64 - n < 64 := by omega
          have h9 : 64 - n + j = j + 64 - n := by omega
          simp [hj, h2, h8, h6, h7, h9]
      · have h8 : ¬ j + 64 < 128 := by omega
        have h4 : b.testBit (64 - n + j) = false := test_lt hb (by omega)
        simp [hj, h4, h8]
    · show ((b <<< n % 2 ^ 64 : Nat) : Int) = pL _
      unfold pL
      refine congrArg Int.ofNat ?_
      apply Nat.eq_of_testBit_eq; intro j
      rw [Nat.testBit_mod_two_pow, Nat.testBit_shiftLeft, Nat.testBit_mod_two_pow, Nat.testBit_mod_two_pow, Nat.testBit_shiftLeft, testBit_V _ _ _ hb]
      by_cases hj : j < 64
      · have h8 : j < 128 := by omega
        have h7 : j - n < 64 := by omega
        simp [hj, h8, h7]
      · simp [hj]
theorem isWidth_yes {w : Int} (h : 1 ≤ w ∧ w ≤ 128) : value_isWidth.f w = some true := by
  unfold value_isWidth.f; rw [if_pos h.1]; simp [h.2]
theorem isWidth_no {w : Int} (h : ¬ (1 ≤ w ∧ w ≤ 128)) : value_isWidth.f w = some false := by
  unfold value_isWidth.f
  split
  · have : ¬ w ≤ 128 := by omega
    simp [this]
  · rfl
theorem Fits_f (hi lo : Int) (h : inU hi = true) (l : inU lo = true) (n : Nat) (h1 : 1 ≤ n) (h2 : n ≤ 128) : value_Fits.f hi lo n = some (decide (V hi lo < 2 ^ n)) := by
  unfold value_Fits.f
  rw [isWidth_yes (by omega)]
  simp only [Option.bind_some, if_true]
  rw [right_f hi lo h l n h2]
  simp only [Option.bind_some]
  have hV := V_lt h l
  have hS : V hi lo >>> n < 2 ^ 128 := by rw [Nat.shiftRight_eq_div_pow]; exact Nat.lt_of_le_of_lt (Nat.div_le_self _ _) hV
  congr 1
  rw [Bool.eq_iff_iff]
  simp only [Bool.and_eq_true, beq_iff_eq, decide_eq_true_eq]
  constructor
  · rintro ⟨e1, e2⟩
    have : V hi lo >>> n = 0 := p_inj hS (by decide) (by rw [e1]; rfl) (by rw [e2]; rfl)
    rw [Nat.shiftRight_eq_div_pow] at this
    exact (Nat.div_eq_zero_iff_lt (Nat.two_pow_pos n)).1 this
  · intro e
    have : V hi lo >>> n = 0 := by rw [Nat.shiftRight_eq_div_pow]; exact Nat.div_eq_of_lt e
    rw [this]; exact ⟨rfl, rfl⟩
end Go.Proofs.YtofnhgpiipmegaaDoor.PV
namespace Go.Proofs.YtofnhgpiipmegaaDoor.PV
open Go.RowKit Go.Proofs.YtofnhgpiipmegaaDoorW.PrintWords Go.Proofs.YtofnhgpiipmegaaDoorW.PrintLast Go.Proofs.YtofnhgpiipmegaaDoorW.PrintMore
set_option linter.unusedVariables false
set_option linter.unusedSimpArgs false
/-- The carry into bit k. -/
def cyN (A B k : Nat) : Bool := BitVec.carry k (BitVec.ofNat 128 A) (BitVec.ofNat 128 B) false
theorem bv_bit (A k : Nat) (h : A < 2 ^ 128) : (BitVec.ofNat 128 A).getLsbD k = A.testBit k := by
  rw [BitVec.getLsbD_ofNat]
  by_cases hk : k < 128
  · simp [hk]
  · rw [test_lt h (by omega)]; simp
theorem cyN_zero (A B : Nat) : cyN A B 0 = false := by simp [cyN]
theorem cyN_succ (A B k : Nat) (hA : A < 2 ^ 128) (hB : B < 2 ^ 128) : cyN A B (k + 1) = ((A.testBit k && B.testBit k) || (A.testBit k && cyN A B k) || (B.testBit k && cyN A B k)) := by
  unfold cyN
  rw [BitVec.carry_succ, bv_bit A k hA, bv_bit B k hB]
theorem sum_bit (A B n k : Nat) (hA : A < 2 ^ 128) (hB : B < 2 ^ 128) (hn : n ≤ 128) (hk : k < n) : ((A + B) % 2 ^ n).testBit k = ((A.testBit k != B.testBit k) != cyN A B k) := by
  have h := BitVec.getLsbD_add (show k < 128 by omega) (BitVec.ofNat 128 A) (BitVec.ofNat 128 B)
  rw [bv_bit A k hA, bv_bit B k hB] at h
  have e : (BitVec.ofNat 128 A + BitVec.ofNat 128 B).getLsbD k = ((A + B) % 2 ^ n).testBit k := by
    rw [← BitVec.ofNat_add, BitVec.getLsbD_ofNat, Nat.testBit_mod_two_pow]
    simp [hk, show k < 128 by omega]
  rw [← e, h]
  unfold cyN
  cases A.testBit k <;> cases B.testBit k <;> cases BitVec.carry k (BitVec.ofNat 128 A) (BitVec.ofNat 128 B) false <;> rfl
end Go.Proofs.YtofnhgpiipmegaaDoor.PV
namespace Go.Proofs.YtofnhgpiipmegaaDoor.PV
open Go.RowKit Go.Proofs.YtofnhgpiipmegaaDoorW.PrintWords Go.Proofs.YtofnhgpiipmegaaDoorW.PrintLast Go.Proofs.YtofnhgpiipmegaaDoorW.PrintMore
set_option linter.unusedVariables false
set_option linter.unusedSimpArgs false
end Go.Proofs.YtofnhgpiipmegaaDoor.PV
namespace Go.Proofs.YtofnhgpiipmegaaDoor.PV
open Go.RowKit Go.Proofs.YtofnhgpiipmegaaDoorW.PrintWords Go.Proofs.YtofnhgpiipmegaaDoorW.PrintLast Go.Proofs.YtofnhgpiipmegaaDoorW.PrintMore
set_option linter.unusedVariables false
set_option linter.unusedSimpArgs false
/-- Below 0, 0, above 0. -/
def cmpN (M N : Nat) : Int := if M < N then -1 else if N < M then 1 else 0
/-- The lowest m bytes of a number, the highest first. -/
def beL : Nat → Nat → List Int
  | 0, _ => []
  | m + 1, X => ((X / 256 ^ m % 256 : Nat) : Int) :: beL m X
theorem beL_length : ∀ (m X : Nat), (beL m X).length = m
  | 0, _ => rfl
  | m + 1, X => by simp [beL, beL_length m X]
theorem set_rep (i d : Nat) (x : Int) (l : List Int) : (List.replicate (d + 1) (0 : Int) ++ l).set d x = List.replicate d 0 ++ x :: l := by
  induction d with
  | zero => rfl
  | succ d ih =>
    rw [List.replicate_succ, List.cons_append, List.set_cons_succ, ih]
    rfl
theorem byte_of (X i : Nat) (h : i ≤ 15) : pL (X >>> (8 * i)) % 256 = ((X / 256 ^ i % 256 : Nat) : Int) := by
  unfold pL
  rw [Nat.shiftRight_eq_div_pow, Nat.pow_mul, show (2 : Nat) ^ 8 = 256 from rfl]
  have : ((X / 256 ^ i % 2 ^ 64 : Nat) : Int) % 256 = ((X / 256 ^ i % 2 ^ 64 % 256 : Nat) : Int) := by omega
  rw [this, Nat.mod_mod_of_dvd _ (by decide)]
theorem Bytes_l0 (hi lo : Int) (h1 : inU hi = true) (h2 : inU lo = true) (m : Nat) (hm : m ≤ 16) : ∀ (d i k : Nat), i + d = m → d < k →
    value_Bytes.l0 k (List.replicate d 0 ++ beL i (V hi lo)) m i hi lo = some (strOfNums (beL m (V hi lo)), 0) := by
  intro d
  induction d with
  | zero =>
    intro i k hi' hk
    obtain ⟨k, rfl⟩ : ∃ j, k = j + 1 := ⟨k - 1, by omega⟩
    simp only [value_Bytes.l0]
    rw [if_neg (by omega)]
    have : i = m := by omega
    subst this
    simp
  | succ d ih =>
    intro i k hi' hk
    obtain ⟨k, rfl⟩ : ∃ j, k = j + 1 := ⟨k - 1, by omega⟩
    simp only [value_Bytes.l0]
    have hl : (List.replicate (d + 1) (0 : Int) ++ beL i (V hi lo)).length = m := by simp [beL_length]; omega
    rw [if_pos (by omega), hl, wrap64_small (by omega) (by omega), show ((8 : Int) * i) = ((8 * i : Nat) : Int) from by omega, right_f _ _ h1 h2 _ (by omega), Option.bind_some]
    have e1 : wrap64 (wrap64 ((m : Int) - 1) - i) = (d : Int) := by unfold wrap64; omega
    have e2 : wrap64 ((i : Int) + 1) = ((i + 1 : Nat) : Int) := by unfold wrap64; omega
    rw [e1, e2, if_pos (by omega), if_pos (by omega)]
    dsimp only
    rw [byte_of _ _ (by omega), Int.toNat_natCast, set_rep i d]
    exact ih (i + 1) k (by omega) (by omega)
theorem Bytes_f (hi lo : Int) (h1 : inU hi = true) (h2 : inU lo = true) (n k : Nat) (n1 : 1 ≤ n) (n2 : n ≤ 128) (hf : V hi lo < 2 ^ n) (hk : 17 ≤ k) :
    value_Bytes.f k hi lo n = some (strOfNums (beL ((n + 7) / 8) (V hi lo)), 0) := by
  unfold value_Bytes.f
  rw [isWidth_yes (by omega), Option.bind_some, if_pos rfl, Fits_f _ _ h1 h2 n n1 n2, decide_eq_true hf, Option.bind_some, if_pos rfl]
  have e : wrap64 (Int.tdiv (wrap64 ((n : Int) + 7)) 8) = (((n + 7) / 8 : Nat) : Int) := by
    rw [wrap64_small (x := (n : Int) + 7) (by omega) (by omega), show ((n : Int) + 7) = ((n + 7 : Nat) : Int) from by omega]
    rw [show (8 : Int) = ((8 : Nat) : Int) from rfl, ← Int.ofNat_tdiv, wrap64_small (by omega) (by omega)]
  rw [e, if_pos (by omega), if_pos (by omega), Option.bind_some, Int.toNat_natCast, List.length_replicate]
  have := Bytes_l0 hi lo h1 h2 ((n + 7) / 8) (by omega) ((n + 7) / 8) 0 k (by omega) (by omega)
  simpa [beL] using this
theorem bytes_eq (s : ByteArray) : s.toList = s.data.toList := ByteArray.toList_eq s
end Go.Proofs.YtofnhgpiipmegaaDoor.PV
namespace Go.Proofs.YtofnhgpiipmegaaDoor.PV
open Go.RowKit Go.Proofs.YtofnhgpiipmegaaDoorW.PrintWords Go.Proofs.YtofnhgpiipmegaaDoorW.PrintLast Go.Proofs.YtofnhgpiipmegaaDoorW.PrintMore
set_option linter.unusedVariables false
set_option linter.unusedSimpArgs false
/-- The lowest m bits of a number, the highest first. -/
def topL (m X : Nat) : List Bool := (List.range m).map fun j => X.testBit (m - 1 - j)
theorem topL_length (m X : Nat) : (topL m X).length = m := by simp [topL]
theorem topL_get (m X i : Nat) (h : i < m) : (topL m X).getD i false = X.testBit (m - 1 - i) := by
  simp [topL, List.getD, h]
theorem ext_getD (l m : List Bool) (hl : l.length = m.length) (h : ∀ i, i < l.length → l.getD i false = m.getD i false) : l = m := by
  apply List.ext_getElem hl
  intro i h1 h2
  have := h i h1
  simpa [List.getD, h1, h2] using this
theorem eq_topL (l : List Bool) (m X : Nat) (hl : l.length = m) (h : ∀ i, i < m → l.getD i false = X.testBit (m - 1 - i)) : l = topL m X :=
  ext_getD _ _ (by rw [hl, topL_length]) fun i hi => by rw [topL_get _ _ _ (by omega)]; exact h i (by omega)
theorem topL_cons (m X : Nat) : topL (m + 1) X = X.testBit m :: topL m X := by
  symm
  apply eq_topL
  · simp [topL_length]
  · intro i hi
    cases i with
    | zero => simp
    | succ i =>
      rw [List.getD_cons_succ, topL_get _ _ _ (by omega)]
      congr 1; omega
theorem topL_snoc (m X : Nat) : topL (m + 1) X = topL m (X / 2) ++ [X.testBit 0] := by
  symm
  apply eq_topL
  · simp [topL_length]
  · intro i hi
    by_cases h : i < m
    · have e : (topL m (X / 2) ++ [X.testBit 0]).getD i false = (topL m (X / 2)).getD i false := by
        simp only [List.getD]; rw [List.getElem?_append_left (by rw [topL_length]; exact h)]
      rw [e, topL_get _ _ _ h, Nat.testBit_div_two]
      congr 1; omega
    · have : i = m := by omega
      subst this
      have e : (topL i (X / 2) ++ [X.testBit 0]).getD i false = X.testBit 0 := by
        simp only [List.getD]; rw [List.getElem?_append_right (by rw [topL_length]; omega), topL_length]; simp
      rw [e]; congr 1; omega
theorem worth_topL : ∀ (m X : Nat), worthL (topL m X) = ((X % 2 ^ m : Nat) : Int)
  | 0, X => by simp [topL, worthL, Nat.mod_one]
  | m + 1, X => by
    rw [topL_snoc, worthL_snoc, worth_topL m (X / 2)]
    have e : X % 2 ^ (m + 1) = 2 * (X / 2 % 2 ^ m) + X % 2 := by
      rw [Nat.pow_succ, Nat.mul_comm, Nat.mod_mul]; omega
    rw [e, Nat.testBit_zero]
    by_cases h : X % 2 = 1
    · simp [h]
    · have : X % 2 = 0 := by omega
      simp [this]
theorem take_topL (X : Nat) : (topL 128 X).take 64 = topL 64 (X / 2 ^ 64) := by
  apply eq_topL
  · simp [topL_length]
  · intro i hi
    have e : ((topL 128 X).take 64).getD i false = (topL 128 X).getD i false := by
      simp only [List.getD]; rw [List.getElem?_take, if_pos hi]
    rw [e, topL_get _ _ _ (by omega), Nat.testBit_div_two_pow]
    congr 1; omega
theorem drop_topL (X : Nat) : ((topL 128 X).drop 64).take 64 = topL 64 X := by
  apply eq_topL
  · simp [topL_length]
  · intro i hi
    have e : (((topL 128 X).drop 64).take 64).getD i false = (topL 128 X).getD (64 + i) false := by
      simp only [List.getD]; rw [List.getElem?_take, if_pos hi, List.getElem?_drop]
    rw [e, topL_get _ _ _ (by omega)]
    congr 1; omega
theorem takeHi_top {X : Nat} (h : X < 2 ^ 128) : takeHi (topL 128 X) = pH X := by
  unfold takeHi pH
  rw [take_topL, worth_topL, Nat.mod_eq_of_lt]
  rw [two128] at h; rw [two64]; omega
theorem takeLo_top (X : Nat) : takeLo (topL 128 X) = pL X := by
  unfold takeLo pL
  rw [drop_topL, worth_topL]
theorem bitk_nat (a k : Nat) (ha : a < 2 ^ 64) : bitk (a : Int) k = a.testBit k := by
  unfold bitk
  have e : ((a : Int) / 2 ^ k) = ((a / 2 ^ k : Nat) : Int) := by push_cast; rfl
  rw [e, show (1 : Int) = ((1 : Nat) : Int) from rfl, and_n _ _ (Nat.lt_of_le_of_lt (Nat.div_le_self _ _) ha) (by decide), Nat.and_one_is_mod, Nat.testBit_eq_decide_div_mod_eq]
  rw [Bool.eq_iff_iff]
  simp only [beq_iff_eq, decide_eq_true_eq]
  omega
theorem layL_top {hi lo : Int} (h : inU hi = true) (l : inU lo = true) : layL hi lo = topL 128 (V hi lo) := by
  obtain ⟨a, rfl, ha⟩ := nat_of h
  obtain ⟨b, rfl, hb⟩ := nat_of l
  rw [V_nat]
  apply eq_topL
  · exact layL_length _ _
  · intro i hi
    unfold layL layN
    simp only [List.getD, List.getElem?_map, List.getElem?_range hi, Option.map_some, Option.getD_some]
    rw [testBit_V _ _ _ hb]
    by_cases h6 : i < 64
    · rw [if_pos h6, if_neg (by omega), bitk_nat _ _ ha, decide_eq_true (by omega), Bool.true_and, show 128 - 1 - i - 64 = 63 - i from by omega]
    · rw [if_neg h6, if_pos (by omega), bitk_nat _ _ hb, decide_eq_true (by omega), Bool.true_and]
theorem cutL_top (X k : Nat) (hk : k ≤ 128) : cutL (topL 128 X) k = topL 128 (X % 2 ^ (128 - k)) := by
  apply eq_topL
  · rw [cutL_length _ _ (by rw [topL_length]; exact hk), topL_length]
  · intro i hi
    unfold cutL
    rw [Nat.testBit_mod_two_pow]
    by_cases h : i < k
    · rw [decide_eq_false (by omega), Bool.false_and]
      simp only [List.getD]; rw [List.getElem?_append_left (by simpa using h)]; simp [h]
    · rw [decide_eq_true (by omega), Bool.true_and]
      have e : (List.replicate k false ++ (topL 128 X).drop k).getD i false = (topL 128 X).getD i false := by
        simp only [List.getD]; rw [List.getElem?_append_right (by simp; omega), List.getElem?_drop]; simp only [List.length_replicate]; rw [show k + (i - k) = i from by omega]
      rw [e, topL_get _ _ _ hi]
theorem getD_set (l : List Bool) (j i : Nat) (b : Bool) (hj : j < l.length) : (l.set j b).getD i false = if i = j then b else l.getD i false := by
  simp only [List.getD, List.getElem?_set]
  by_cases h : j = i
  · subst h; simp [hj]
  · rw [if_neg h, if_neg (fun e => h e.symm)]
theorem smR_top (A B : Nat) (hA : A < 2 ^ 128) (hB : B < 2 ^ 128) : ∀ k, k ≤ 128 → cyR (topL 128 A) (topL 128 B) k = cyN A B k ∧
    ∀ i, i < 128 → (smR (topL 128 A) (topL 128 B) k).getD i false = (decide (127 - i < k) && ((A + B) % 2 ^ 128).testBit (127 - i)) := by
  intro k
  induction k with
  | zero =>
    intro _
    refine ⟨by rw [cyN_zero]; rfl, fun i hi => ?_⟩
    rw [decide_eq_false (by omega), Bool.false_and]
    simp only [smR, List.getD, List.getElem?_replicate, hi, if_true, Option.getD_some]
  | succ k ih =>
    intro hk
    obtain ⟨ih1, ih2⟩ := ih (by omega)
    have ga := topL_get 128 A (127 - k) (by omega)
    have gb := topL_get 128 B (127 - k) (by omega)
    rw [show 128 - 1 - (127 - k) = k from by omega] at ga gb
    constructor
    · simp only [cyR]
      rw [cyN_succ _ _ _ hA hB, ga, gb, ih1]
    · intro i hi
      simp only [smR]
      rw [getD_set _ _ _ _ (by rw [smR_length]; omega), ga, gb, ih1]
      by_cases h : i = 127 - k
      · subst h
        rw [if_pos rfl, decide_eq_true (by omega), Bool.true_and, show 127 - (127 - k) = k from by omega, sum_bit A B 128 k hA hB (by omega) (by omega)]
      · rw [if_neg h, ih2 i hi]
        by_cases h2 : 127 - i < k
        · rw [decide_eq_true h2, decide_eq_true (by omega)]
        · rw [decide_eq_false h2, decide_eq_false (by omega)]
theorem sum_top (A B : Nat) (hA : A < 2 ^ 128) (hB : B < 2 ^ 128) : smR (topL 128 A) (topL 128 B) 128 = topL 128 ((A + B) % 2 ^ 128) := by
  apply eq_topL
  · exact smR_length _ _ _
  · intro i hi
    rw [(smR_top A B hA hB 128 (by omega)).2 i hi, decide_eq_true (by omega), Bool.true_and]
theorem mod_succ (A m : Nat) : A % 2 ^ (m + 1) = A % 2 ^ m + 2 ^ m * (A.testBit m).toNat := by
  rw [Nat.pow_succ, Nat.mod_mul, Nat.testBit_eq_decide_div_mod_eq]
  by_cases h : A / 2 ^ m % 2 = 1
  · rw [h, decide_eq_true rfl]; rfl
  · rw [decide_eq_false h, show A / 2 ^ m % 2 = 0 from by omega]; rfl
theorem cmpL_top : ∀ (m A B : Nat), cmpL (topL m A) (topL m B) = cmpN (A % 2 ^ m) (B % 2 ^ m)
  | 0, A, B => by simp [topL, cmpL, cmpN, Nat.mod_one]
  | m + 1, A, B => by
    have ih := cmpL_top m A B
    rw [topL_cons, topL_cons]
    simp only [cmpL]
    rw [ih, mod_succ, mod_succ]
    have ha := Nat.mod_lt A (Nat.two_pow_pos m)
    have hb := Nat.mod_lt B (Nat.two_pow_pos m)
    cases A.testBit m <;> cases B.testBit m <;> simp only [Bool.toNat_true, Bool.toNat_false, Nat.mul_one, Nat.mul_zero, Nat.add_zero, if_true, if_false, reduceCtorEq]
    · unfold cmpN; rw [if_pos (by omega)]
    · unfold cmpN; rw [if_neg (by omega), if_pos (by omega)]
    · unfold cmpN
      repeat' split
      all_goals omega
end Go.Proofs.YtofnhgpiipmegaaDoor.PV
