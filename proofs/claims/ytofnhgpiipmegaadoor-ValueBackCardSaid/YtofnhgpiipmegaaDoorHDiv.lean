/- math/bits.Div64 at the three bases that digits are told in: quotient and rest of hi * 2^64 + lo. -/
import Derived.Test.YtofnhgpiipmegaaDoorHNumA
namespace Go.Proofs.YtofnhgpiipmegaaDoor.PV
open Go.RowKit Go.Proofs.YtofnhgpiipmegaaDoorW.PrintWords Go.Proofs.YtofnhgpiipmegaaDoorW.PrintLast Go.Proofs.YtofnhgpiipmegaaDoorW.PrintMore
set_option linter.unusedVariables false
set_option linter.unusedSimpArgs false
theorem shl_u (x : Int) (n : Nat) (hn : n ≤ 64) : shl .u64 x n = x * 2 ^ n % 18446744073709551616 := by
  unfold shl; rw [Int.toNat_natCast, show IntKind.u64.bits = 64 from rfl, Nat.min_eq_left hn]; rfl
theorem shr_u (x : Int) (n : Nat) (hn : n ≤ 64) : shr .u64 x n = x / 2 ^ n := by
  unfold shr; rw [Int.toNat_natCast, show IntKind.u64.bits = 64 from rfl, Nat.min_eq_left hn]
theorem or_join (x y : Int) (i : Nat) (hi : i ≤ 64) (h0 : 0 ≤ x) (h1 : x < 18446744073709551616) (hx : x % 2 ^ i = 0) (y0 : 0 ≤ y) (y1 : y < 2 ^ i) (y2 : y < 18446744073709551616) : Go.bits .or .u64 x y = x + y :=
  bits_join .u64 64 (by decide) (fun n a b => by rw [wrapU_eq]; have : (2 : Int) ^ 64 = 18446744073709551616 := by decide
                                                 omega) i x y h0 hx (by have : (2 : Int) ^ 64 = 18446744073709551616 := by decide
                                                                        omega) y0 y1 (by have : (2 : Int) ^ 64 = 18446744073709551616 := by decide
                                                                                         omega)
theorem tdiv_pos (a b : Int) (h : 0 ≤ a) : a.tdiv b = a / b := Int.tdiv_eq_ediv_of_nonneg h
theorem lz2 : bits_LeadingZeros64.f 5 2 = some 62 := by decide +kernel
theorem div2 (hi lo : Int) (h0 : 0 < hi) (h1 : hi < 2) (l0 : 0 ≤ lo) (l1 : lo < 18446744073709551616) :
    bits_Div64.f 5 hi lo 2 = some ((hi * 18446744073709551616 + lo) / 2, (hi * 18446744073709551616 + lo) % 2) := by
  unfold bits_Div64.f
  rw [if_neg (by decide), if_neg (by omega), if_neg (by omega), lz2]
  simp only [Option.bind_some]
  have w1 : IntKind.u64.wrap (62 : Int) = ((62 : Nat) : Int) := by decide +kernel
  have w2 : IntKind.u64.wrap (64 - ((62 : Nat) : Int)) = ((2 : Nat) : Int) := by decide +kernel
  rw [w1, w2, if_pos (by omega), if_pos (by omega)]
  have y1 : shl .u64 2 ((62 : Nat) : Int) = 9223372036854775808 := by decide +kernel
  rw [y1]
  have y2 : (9223372036854775808 : Int) / 4294967296 = 2147483648 := by decide +kernel
  rw [y2, if_neg (by decide)]
  have y3 : Go.bits .and .u64 9223372036854775808 4294967295 = 0 := by rw [and_mask _ (by decide) (by decide)]; decide +kernel
  rw [y3, shl_u hi 62 (by decide), shl_u lo 62 (by decide), shr_u lo 2 (by decide)]
  have p1 : (2 : Int) ^ 62 = 4611686018427387904 := by decide +kernel
  have p2 : (2 : Int) ^ 2 = 4 := by decide +kernel
  rw [p1, p2]
  have e1 : hi * 4611686018427387904 % 18446744073709551616 = hi * 4611686018427387904 := by omega
  have e2 : lo * 4611686018427387904 % 18446744073709551616 = lo % 4 * 4611686018427387904 := by omega
  rw [e1, e2, or_join _ _ 62 (by decide) (by omega) (by omega) (by rw [p1]; omega) (by omega) (by rw [p1]; omega) (by omega)]
  obtain ⟨u, hu⟩ : ∃ u, hi * 4611686018427387904 + lo / 4 = u := ⟨_, rfl⟩
  rw [hu, and_mask _ (by omega) (by omega)]
  have e3 : lo % 4 * 4611686018427387904 % 4294967296 = 0 := by omega
  rw [e3]
  have u0 : 0 ≤ u := by omega
  have u1 : u < 9223372036854775808 := by omega
  rw [tdiv_pos u _ u0]
  simp only [wrapU_eq]
  have e4 : u / 2147483648 % 18446744073709551616 = u / 2147483648 := by omega
  rw [e4]
  have q1 : u / 2147483648 < 4294967296 := by omega
  rw [bits_Div64.l0]
  rw [if_neg (by omega)]
  have d1 : decide (IntKind.u64.wrap (u / 2147483648 * 0) > IntKind.u64.wrap (IntKind.u64.wrap (4294967296 * ((u - u / 2147483648 * 2147483648 % 18446744073709551616) % 18446744073709551616)) + lo % 4 * 4611686018427387904 / 4294967296)) = false := by
    apply decide_eq_false
    simp only [wrapU_eq]
    omega
  rw [d1]
  rw [bits_Div64.j1]
  simp only [Bool.false_eq_true, if_false]
  rw [bits_Div64.j2]
  rw [if_neg (by decide)]
  simp only [wrapU_eq]
  have e5 : ((u * 4294967296 % 18446744073709551616 + lo % 4 * 4611686018427387904 / 4294967296) % 18446744073709551616 - u / 2147483648 * 9223372036854775808 % 18446744073709551616) % 18446744073709551616 = u % 2147483648 * 4294967296 + lo % 4 * 4611686018427387904 / 4294967296 := by omega
  rw [e5]
  obtain ⟨v, hv⟩ : ∃ v, u % 2147483648 * 4294967296 + lo % 4 * 4611686018427387904 / 4294967296 = v := ⟨_, rfl⟩
  rw [hv]
  have v0 : 0 ≤ v := by omega
  have v1 : v < 9223372036854775808 := by omega
  rw [tdiv_pos v _ v0]
  have e6 : v / 2147483648 % 18446744073709551616 = v / 2147483648 := by omega
  rw [e6]
  rw [bits_Div64.l1]
  rw [if_neg (by omega)]
  have d2 : decide (IntKind.u64.wrap (v / 2147483648 * 0) > IntKind.u64.wrap (IntKind.u64.wrap (4294967296 * ((v - v / 2147483648 * 2147483648 % 18446744073709551616) % 18446744073709551616)) + 0)) = false := by
    apply decide_eq_false
    simp only [wrapU_eq]
    omega
  rw [d2]
  rw [bits_Div64.j4]
  simp only [Bool.false_eq_true, if_false]
  rw [if_pos (by omega), shr_u _ 62 (by decide), p1]
  simp only [wrapU_eq]
  congr 1
  apply Prod.ext
  · show _ = _ / _
    omega
  · show _ = _ % _
    omega
theorem lz10 : bits_LeadingZeros64.f 5 10 = some 60 := by decide +kernel
theorem div10 (hi lo : Int) (h0 : 0 < hi) (h1 : hi < 10) (l0 : 0 ≤ lo) (l1 : lo < 18446744073709551616) :
    bits_Div64.f 5 hi lo 10 = some ((hi * 18446744073709551616 + lo) / 10, (hi * 18446744073709551616 + lo) % 10) := by
  unfold bits_Div64.f
  rw [if_neg (by decide), if_neg (by omega), if_neg (by omega), lz10]
  simp only [Option.bind_some]
  have w1 : IntKind.u64.wrap (60 : Int) = ((60 : Nat) : Int) := by decide +kernel
  have w2 : IntKind.u64.wrap (64 - ((60 : Nat) : Int)) = ((4 : Nat) : Int) := by decide +kernel
  rw [w1, w2, if_pos (by omega), if_pos (by omega)]
  have y1 : shl .u64 10 ((60 : Nat) : Int) = 11529215046068469760 := by decide +kernel
  rw [y1]
  have y2 : (11529215046068469760 : Int) / 4294967296 = 2684354560 := by decide +kernel
  rw [y2, if_neg (by decide)]
  have y3 : Go.bits .and .u64 11529215046068469760 4294967295 = 0 := by rw [and_mask _ (by decide) (by decide)]; decide +kernel
  rw [y3, shl_u hi 60 (by decide), shl_u lo 60 (by decide), shr_u lo 4 (by decide)]
  have p1 : (2 : Int) ^ 60 = 1152921504606846976 := by decide +kernel
  have p2 : (2 : Int) ^ 4 = 16 := by decide +kernel
  rw [p1, p2]
  have e1 : hi * 1152921504606846976 % 18446744073709551616 = hi * 1152921504606846976 := by omega
  have e2 : lo * 1152921504606846976 % 18446744073709551616 = lo % 16 * 1152921504606846976 := by omega
  rw [e1, e2, or_join _ _ 60 (by decide) (by omega) (by omega) (by rw [p1]; omega) (by omega) (by rw [p1]; omega) (by omega)]
  obtain ⟨u, hu⟩ : ∃ u, hi * 1152921504606846976 + lo / 16 = u := ⟨_, rfl⟩
  rw [hu, and_mask _ (by omega) (by omega)]
  have e3 : lo % 16 * 1152921504606846976 % 4294967296 = 0 := by omega
  rw [e3]
  have u0 : 0 ≤ u := by omega
  have u1 : u < 11529215046068469760 := by omega
  rw [tdiv_pos u _ u0]
  simp only [wrapU_eq]
  have e4 : u / 2684354560 % 18446744073709551616 = u / 2684354560 := by omega
  rw [e4]
  have q1 : u / 2684354560 < 4294967296 := by omega
  rw [bits_Div64.l0]
  rw [if_neg (by omega)]
  have d1 : decide (IntKind.u64.wrap (u / 2684354560 * 0) > IntKind.u64.wrap (IntKind.u64.wrap (4294967296 * ((u - u / 2684354560 * 2684354560 % 18446744073709551616) % 18446744073709551616)) + lo % 16 * 1152921504606846976 / 4294967296)) = false := by
    apply decide_eq_false
    simp only [wrapU_eq]
    omega
  rw [d1]
  rw [bits_Div64.j1]
  simp only [Bool.false_eq_true, if_false]
  rw [bits_Div64.j2]
  rw [if_neg (by decide)]
  simp only [wrapU_eq]
  have e5 : ((u * 4294967296 % 18446744073709551616 + lo % 16 * 1152921504606846976 / 4294967296) % 18446744073709551616 - u / 2684354560 * 11529215046068469760 % 18446744073709551616) % 18446744073709551616 = u % 2684354560 * 4294967296 + lo % 16 * 1152921504606846976 / 4294967296 := by omega
  rw [e5]
  obtain ⟨v, hv⟩ : ∃ v, u % 2684354560 * 4294967296 + lo % 16 * 1152921504606846976 / 4294967296 = v := ⟨_, rfl⟩
  rw [hv]
  have v0 : 0 ≤ v := by omega
  have v1 : v < 11529215046068469760 := by omega
  rw [tdiv_pos v _ v0]
  have e6 : v / 2684354560 % 18446744073709551616 = v / 2684354560 := by omega
  rw [e6]
  rw [bits_Div64.l1]
  rw [if_neg (by omega)]
  have d2 : decide (IntKind.u64.wrap (v / 2684354560 * 0) > IntKind.u64.wrap (IntKind.u64.wrap (4294967296 * ((v - v / 2684354560 * 2684354560 % 18446744073709551616) % 18446744073709551616)) + 0)) = false := by
    apply decide_eq_false
    simp only [wrapU_eq]
    omega
  rw [d2]
  rw [bits_Div64.j4]
  simp only [Bool.false_eq_true, if_false]
  rw [if_pos (by omega), shr_u _ 60 (by decide), p1]
  simp only [wrapU_eq]
  congr 1
  apply Prod.ext
  · show _ = _ / _
    omega
  · show _ = _ % _
    omega
theorem lz16 : bits_LeadingZeros64.f 5 16 = some 59 := by decide +kernel
theorem div16 (hi lo : Int) (h0 : 0 < hi) (h1 : hi < 16) (l0 : 0 ≤ lo) (l1 : lo < 18446744073709551616) :
    bits_Div64.f 5 hi lo 16 = some ((hi * 18446744073709551616 + lo) / 16, (hi * 18446744073709551616 + lo) % 16) := by
  unfold bits_Div64.f
  rw [if_neg (by decide), if_neg (by omega), if_neg (by omega), lz16]
  simp only [Option.bind_some]
  have w1 : IntKind.u64.wrap (59 : Int) = ((59 : Nat) : Int) := by decide +kernel
  have w2 : IntKind.u64.wrap (64 - ((59 : Nat) : Int)) = ((5 : Nat) : Int) := by decide +kernel
  rw [w1, w2, if_pos (by omega), if_pos (by omega)]
  have y1 : shl .u64 16 ((59 : Nat) : Int) = 9223372036854775808 := by decide +kernel
  rw [y1]
  have y2 : (9223372036854775808 : Int) / 4294967296 = 2147483648 := by decide +kernel
  rw [y2, if_neg (by decide)]
  have y3 : Go.bits .and .u64 9223372036854775808 4294967295 = 0 := by rw [and_mask _ (by decide) (by decide)]; decide +kernel
  rw [y3, shl_u hi 59 (by decide), shl_u lo 59 (by decide), shr_u lo 5 (by decide)]
  have p1 : (2 : Int) ^ 59 = 576460752303423488 := by decide +kernel
  have p2 : (2 : Int) ^ 5 = 32 := by decide +kernel
  rw [p1, p2]
  have e1 : hi * 576460752303423488 % 18446744073709551616 = hi * 576460752303423488 := by omega
  have e2 : lo * 576460752303423488 % 18446744073709551616 = lo % 32 * 576460752303423488 := by omega
  rw [e1, e2, or_join _ _ 59 (by decide) (by omega) (by omega) (by rw [p1]; omega) (by omega) (by rw [p1]; omega) (by omega)]
  obtain ⟨u, hu⟩ : ∃ u, hi * 576460752303423488 + lo / 32 = u := ⟨_, rfl⟩
  rw [hu, and_mask _ (by omega) (by omega)]
  have e3 : lo % 32 * 576460752303423488 % 4294967296 = 0 := by omega
  rw [e3]
  have u0 : 0 ≤ u := by omega
  have u1 : u < 9223372036854775808 := by omega
  rw [tdiv_pos u _ u0]
  simp only [wrapU_eq]
  have e4 : u / 2147483648 % 18446744073709551616 = u / 2147483648 := by omega
  rw [e4]
  have q1 : u / 2147483648 < 4294967296 := by omega
  rw [bits_Div64.l0]
  rw [if_neg (by omega)]
  have d1 : decide (IntKind.u64.wrap (u / 2147483648 * 0) > IntKind.u64.wrap (IntKind.u64.wrap (4294967296 * ((u - u / 2147483648 * 2147483648 % 18446744073709551616) % 18446744073709551616)) + lo % 32 * 576460752303423488 / 4294967296)) = false := by
    apply decide_eq_false
    simp only [wrapU_eq]
    omega
  rw [d1]
  rw [bits_Div64.j1]
  simp only [Bool.false_eq_true, if_false]
  rw [bits_Div64.j2]
  rw [if_neg (by decide)]
  simp only [wrapU_eq]
  have e5 : ((u * 4294967296 % 18446744073709551616 + lo % 32 * 576460752303423488 / 4294967296) % 18446744073709551616 - u / 2147483648 * 9223372036854775808 % 18446744073709551616) % 18446744073709551616 = u % 2147483648 * 4294967296 + lo % 32 * 576460752303423488 / 4294967296 := by omega
  rw [e5]
  obtain ⟨v, hv⟩ : ∃ v, u % 2147483648 * 4294967296 + lo % 32 * 576460752303423488 / 4294967296 = v := ⟨_, rfl⟩
  rw [hv]
  have v0 : 0 ≤ v := by omega
  have v1 : v < 9223372036854775808 := by omega
  rw [tdiv_pos v _ v0]
  have e6 : v / 2147483648 % 18446744073709551616 = v / 2147483648 := by omega
  rw [e6]
  rw [bits_Div64.l1]
  rw [if_neg (by omega)]
  have d2 : decide (IntKind.u64.wrap (v / 2147483648 * 0) > IntKind.u64.wrap (IntKind.u64.wrap (4294967296 * ((v - v / 2147483648 * 2147483648 % 18446744073709551616) % 18446744073709551616)) + 0)) = false := by
    apply decide_eq_false
    simp only [wrapU_eq]
    omega
  rw [d2]
  rw [bits_Div64.j4]
  simp only [Bool.false_eq_true, if_false]
  rw [if_pos (by omega), shr_u _ 59 (by decide), p1]
  simp only [wrapU_eq]
  congr 1
  apply Prod.ext
  · show _ = _ / _
    omega
  · show _ = _ % _
    omega
end Go.Proofs.YtofnhgpiipmegaaDoor.PV
