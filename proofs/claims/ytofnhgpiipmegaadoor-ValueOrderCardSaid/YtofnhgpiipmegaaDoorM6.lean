/- Plain facts: Common, Mask, Compare, Bytes; the order of equally long bytes is that of the numbers. -/
import Derived.Test.YtofnhgpiipmegaaDoorM5
namespace Go.Proofs.YtofnhgpiipmegaaDoor.PV
open Go.RowKit Go.Proofs.YtofnhgpiipmegaaDoorW.PrintWords Go.Proofs.YtofnhgpiipmegaaDoorW.PrintLast Go.Proofs.YtofnhgpiipmegaaDoorW.PrintMore
set_option linter.unusedVariables false
set_option linter.unusedSimpArgs false
theorem shift_mod (X n : Nat) (h2 : n ≤ 128) : (X <<< (128 - n)) % 2 ^ 128 = (X % 2 ^ n) * 2 ^ (128 - n) := by
  have e : 2 ^ 128 = 2 ^ n * 2 ^ (128 - n) := by rw [← Nat.pow_add, Nat.add_sub_cancel' h2]
  rw [Nat.shiftLeft_eq, e, Nat.mul_mod_mul_right]
theorem mn_nat (a b : Nat) : mn (a : Int) (b : Int) = ((min a b : Nat) : Int) := by
  unfold mn; split <;> omega
theorem Common_f {a0 a1 b0 b1 : Int} (h1 : inU a0 = true) (h2 : inU a1 = true) (h3 : inU b0 = true) (h4 : inU b1 = true) (k n : Nat) (n1 : 1 ≤ n) (n2 : n ≤ 128) :
    value_Common.f (k + 1) a0 a1 b0 b1 n = some ((n - bl ((V a0 a1 ^^^ V b0 b1) % 2 ^ n) : Nat) : Int) := by
  have hX : V a0 a1 ^^^ V b0 b1 < 2 ^ 128 := xor_lt (V_lt h1 h2) (V_lt h3 h4)
  unfold value_Common.f
  rw [isWidth_yes (by omega), Option.bind_some, if_pos rfl, Xor_f _ _ _ _ h1 h2 h3 h4, Option.bind_some]
  dsimp only
  generalize V a0 a1 ^^^ V b0 b1 = X at hX
  rw [wrap64_small (by omega) (by omega), show ((128 : Int) - n) = ((128 - n : Nat) : Int) from by omega, left_f _ _ (pH_in hX) (pL_in X) _ (by omega), Option.bind_some, V_p hX, shift_mod X n n2]
  dsimp only
  have hR := Nat.mod_lt X (Nat.two_pow_pos n)
  generalize X % 2 ^ n = R at hR
  have hb := bl_le hR
  have hS : R * 2 ^ (128 - n) < 2 ^ 128 := by
    have e : 2 ^ 128 = 2 ^ n * 2 ^ (128 - n) := by rw [← Nat.pow_add, Nat.add_sub_cancel' n2]
    rw [e]; exact Nat.mul_lt_mul_of_pos_right hR (Nat.two_pow_pos _)
  have hbs : min n (128 - bl (R * 2 ^ (128 - n))) = n - bl R := by
    by_cases h0 : R = 0
    · subst h0; rw [Nat.zero_mul, bl_zero]; omega
    · rw [bl_shift h0]; omega
  rw [← hbs]
  generalize R * 2 ^ (128 - n) = S at hS
  have hs8 := bl_le hS
  by_cases hh : S < 2 ^ 64
  · have e0 : pH S = 0 := by unfold pH; rw [Nat.div_eq_of_lt hh]; rfl
    have e1 : pL S = (S : Int) := by unfold pL; rw [Nat.mod_eq_of_lt hh]
    have hb6 := bl_le hh
    rw [if_pos e0, e1, Lead_f k S hh, Option.bind_some, wrap64_small (by omega) (by omega), show ((64 : Int) + ((64 - bl S : Nat) : Int)) = ((128 - bl S : Nat) : Int) from by omega, mn_nat]
  · have hh' : 2 ^ 64 ≤ S := Nat.le_of_not_lt hh
    have e0 : pH S ≠ 0 := by
      unfold pH
      have := Nat.div_pos hh' (Nat.two_pow_pos 64)
      omega
    have hd : S / 2 ^ 64 < 2 ^ 64 := by rw [two128] at hS; rw [two64]; omega
    have e := bl_div (N := S) (s := 64) hh'
    rw [if_neg e0]
    unfold pH
    rw [Lead_f k _ hd, Option.bind_some, mn_nat]
    congr 3
    omega
theorem Mask_f (k n c : Nat) (n1 : 1 ≤ n) (n2 : n ≤ 128) (hc : c ≤ n) : value_Mask.f (k + 1) n c = some (pH ((2 ^ c - 1) * 2 ^ (n - c)), pL ((2 ^ c - 1) * 2 ^ (n - c)), 0) := by
  have h1 : 2 ^ c - 1 < 2 ^ 128 := by
    have := Nat.pow_le_pow_right (n := 2) (by decide) (Nat.le_trans hc n2)
    have := Nat.two_pow_pos c
    omega
  unfold value_Mask.f
  rw [isWidth_yes (by omega), Option.bind_some, if_pos rfl, if_neg (by omega), decide_eq_false (by omega)]
  simp only [value_Mask.j0, Bool.false_eq_true, if_false]
  rw [ones_f c (by omega), Option.bind_some]
  dsimp only
  rw [wrap64_small (by omega) (by omega), show ((n : Int) - c) = ((n - c : Nat) : Int) from by omega, left_f _ _ (pH_in h1) (pL_in _) _ (by omega), Option.bind_some, V_p h1, Nat.shiftLeft_eq, Nat.mod_eq_of_lt]
  have e : 2 ^ n = 2 ^ c * 2 ^ (n - c) := by rw [← Nat.pow_add, Nat.add_sub_cancel' hc]
  have e2 := Nat.pow_le_pow_right (n := 2) (by decide) n2
  have e3 : (2 ^ c - 1) * 2 ^ (n - c) < 2 ^ c * 2 ^ (n - c) := Nat.mul_lt_mul_of_pos_right (by have := Nat.two_pow_pos c; omega) (Nat.two_pow_pos _)
  omega
theorem cmp64 (a b : Int) : cmp_Compare_uint64.f a b = some (if a < b then -1 else if b < a then 1 else 0) := by
  unfold cmp_Compare_uint64.f cmp_isNaN_uint64.f
  simp only [Option.bind_some, bne_self_eq_false, Bool.false_eq_true, if_false]
  by_cases h : a < b
  · rw [if_pos h, if_pos h]
  · rw [if_neg h, if_neg h]
    by_cases h2 : b < a
    · rw [if_pos h2, if_pos h2]
    · rw [if_neg h2, if_neg h2]
theorem cmpOr2 (k : Nat) (x y : Int) : cmp_Or_int.f (k + 3) [x, y] = some (if x = 0 then y else x) := by
  unfold cmp_Or_int.f
  simp only [cmp_Or_int.l0, List.length_cons, List.length_nil]
  by_cases hx : x = 0
  · by_cases hy : y = 0
    · subst hx; subst hy; simp [rd, wrap64]
    · subst hx; simp [rd, hy, wrap64]
  · simp [rd, hx]
/-- Below 0, 0, above 0. -/
def cmpN (M N : Nat) : Int := if M < N then -1 else if N < M then 1 else 0
theorem Compare_f (k M N : Nat) (hM : M < 2 ^ 128) (hN : N < 2 ^ 128) : value_Compare.f (k + 3) (pH M) (pL M) (pH N) (pL N) = some (cmpN M N) := by
  unfold value_Compare.f
  rw [cmp64, Option.bind_some, cmp64, Option.bind_some, cmpOr2, Option.bind_some]
  unfold pH pL cmpN
  rw [two64]
  congr 1
  repeat' split
  all_goals omega
/-- The lowest m bytes of a number, the highest first. -/
def beL : Nat → Nat → List Int
  | 0, _ => []
  | m + 1, X => ((X / 256 ^ m % 256 : Nat) : Int) :: beL m X
theorem beL_length : ∀ (m X : Nat), (beL m X).length = m
  | 0, _ => rfl
  | m + 1, X => by simp [beL, beL_length m X]
theorem set_rep (i d : Nat) (x : Int) (l : List Int) : (List.replicate (d + 1) (0 : Int) ++ l).set d x = List.replicate d 0 ++ x :: l := by
  induction d with
  | zero => rfl
  | succ d ih =>
    rw [List.replicate_succ, List.cons_append, List.set_cons_succ, ih]
    rfl
theorem byte_of (X i : Nat) (h : i ≤ 15) : pL (X >>> (8 * i)) % 256 = ((X / 256 ^ i % 256 : Nat) : Int) := by
  unfold pL
  rw [Nat.shiftRight_eq_div_pow, Nat.pow_mul, show (2 : Nat) ^ 8 = 256 from rfl]
  have : ((X / 256 ^ i % 2 ^ 64 : Nat) : Int) % 256 = ((X / 256 ^ i % 2 ^ 64 % 256 : Nat) : Int) := by omega
  rw [this, Nat.mod_mod_of_dvd _ (by decide)]
theorem Bytes_l0 (hi lo : Int) (h1 : inU hi = true) (h2 : inU lo = true) (m : Nat) (hm : m ≤ 16) : ∀ (d i k : Nat), i + d = m → d < k →
    value_Bytes.l0 k (List.replicate d 0 ++ beL i (V hi lo)) m i hi lo = some (strOfNums (beL m (V hi lo)), 0) := by
  intro d
  induction d with
  | zero =>
    intro i k hi' hk
    obtain ⟨k, rfl⟩ : ∃ j, k = j + 1 := ⟨k - 1, by omega⟩
    simp only [value_Bytes.l0]
    rw [if_neg (by omega)]
    have : i = m := by omega
    subst this
    simp
  | succ d ih =>
    intro i k hi' hk
    obtain ⟨k, rfl⟩ : ∃ j, k = j + 1 := ⟨k - 1, by omega⟩
    simp only [value_Bytes.l0]
    have hl : (List.replicate (d + 1) (0 : Int) ++ beL i (V hi lo)).length = m := by simp [beL_length]; omega
    rw [if_pos (by omega), hl, wrap64_small (by omega) (by omega), show ((8 : Int) * i) = ((8 * i : Nat) : Int) from by omega, right_f _ _ h1 h2 _ (by omega), Option.bind_some]
    have e1 : wrap64 (wrap64 ((m : Int) - 1) - i) = (d : Int) := by unfold wrap64; omega
    have e2 : wrap64 ((i : Int) + 1) = ((i + 1 : Nat) : Int) := by unfold wrap64; omega
    rw [e1, e2, if_pos (by omega), if_pos (by omega)]
    dsimp only
    rw [byte_of _ _ (by omega), Int.toNat_natCast, set_rep i d]
    exact ih (i + 1) k (by omega) (by omega)
theorem Bytes_f (hi lo : Int) (h1 : inU hi = true) (h2 : inU lo = true) (n k : Nat) (n1 : 1 ≤ n) (n2 : n ≤ 128) (hf : V hi lo < 2 ^ n) (hk : 17 ≤ k) :
    value_Bytes.f k hi lo n = some (strOfNums (beL ((n + 7) / 8) (V hi lo)), 0) := by
  unfold value_Bytes.f
  rw [isWidth_yes (by omega), Option.bind_some, if_pos rfl, Fits_f _ _ h1 h2 n n1 n2, decide_eq_true hf, Option.bind_some, if_pos rfl]
  have e : wrap64 (Int.tdiv (wrap64 ((n : Int) + 7)) 8) = (((n + 7) / 8 : Nat) : Int) := by
    rw [wrap64_small (x := (n : Int) + 7) (by omega) (by omega), show ((n : Int) + 7) = ((n + 7 : Nat) : Int) from by omega]
    rw [show (8 : Int) = ((8 : Nat) : Int) from rfl, ← Int.ofNat_tdiv, wrap64_small (by omega) (by omega)]
  rw [e, if_pos (by omega), if_pos (by omega), Option.bind_some, Int.toNat_natCast, List.length_replicate]
  have := Bytes_l0 hi lo h1 h2 ((n + 7) / 8) (by omega) ((n + 7) / 8) 0 k (by omega) (by omega)
  simpa [beL] using this
theorem bytes_eq (s : ByteArray) : s.toList = s.data.toList := ByteArray.toList_eq s
theorem less_beL : ∀ (m X Y : Nat), Op.bytesLess ((beL m X).map fun n => UInt8.ofNat n.toNat) ((beL m Y).map fun n => UInt8.ofNat n.toNat) = decide (X % 256 ^ m < Y % 256 ^ m)
  | 0, X, Y => by simp [beL, Op.bytesLess, Nat.mod_one]
  | m + 1, X, Y => by
    have ih := less_beL m X Y
    simp only [beL, List.map_cons, Op.bytesLess, ih, Int.toNat_natCast]
    have hx : X % 256 ^ (m + 1) = 256 ^ m * (X / 256 ^ m % 256) + X % 256 ^ m := by
      rw [Nat.pow_succ, Nat.mod_mul, Nat.add_comm]
    have hy : Y % 256 ^ (m + 1) = 256 ^ m * (Y / 256 ^ m % 256) + Y % 256 ^ m := by
      rw [Nat.pow_succ, Nat.mod_mul, Nat.add_comm]
    have px : X % 256 ^ m < 256 ^ m := Nat.mod_lt _ (Nat.pow_pos (by decide))
    have py : Y % 256 ^ m < 256 ^ m := Nat.mod_lt _ (Nat.pow_pos (by decide))
    have bx : X / 256 ^ m % 256 < 256 := Nat.mod_lt _ (by decide)
    have by' : Y / 256 ^ m % 256 < 256 := Nat.mod_lt _ (by decide)
    rw [hx, hy]
    generalize X / 256 ^ m % 256 = a at bx
    generalize Y / 256 ^ m % 256 = b at by'
    generalize X % 256 ^ m = r at px
    generalize Y % 256 ^ m = s at py
    have hlt : (UInt8.ofNat a < UInt8.ofNat b) ↔ a < b := by
      rw [UInt8.lt_iff_toNat_lt, UInt8.toNat_ofNat_of_lt' bx, UInt8.toNat_ofNat_of_lt' by']
    have heq : (UInt8.ofNat a = UInt8.ofNat b) ↔ a = b := by
      rw [← UInt8.toNat_inj, UInt8.toNat_ofNat_of_lt' bx, UInt8.toNat_ofNat_of_lt' by']
    rw [Bool.eq_iff_iff]
    simp only [Bool.or_eq_true, Bool.and_eq_true, decide_eq_true_eq, beq_iff_eq, hlt, heq]
    rcases Nat.lt_trichotomy a b with h | h | h
    · have : 256 ^ m * (a + 1) ≤ 256 ^ m * b := Nat.mul_le_mul_left _ h
      rw [Nat.mul_succ] at this
      constructor
      · intro _; omega
      · intro _; exact Or.inl h
    · subst h
      constructor
      · rintro (h | h)
        · omega
        · omega
      · intro h; exact Or.inr ⟨rfl, by omega⟩
    · have : 256 ^ m * (b + 1) ≤ 256 ^ m * a := Nat.mul_le_mul_left _ h
      rw [Nat.mul_succ] at this
      constructor
      · rintro (h' | h')
        · omega
        · omega
      · intro _; omega
theorem less_str (m X Y : Nat) (hX : X < 256 ^ m) (hY : Y < 256 ^ m) : Op.bytesLess (strOfNums (beL m X)).toList (strOfNums (beL m Y)).toList = decide (X < Y) := by
  rw [bytes_eq, bytes_eq, strOfNums_data, strOfNums_data, less_beL, Nat.mod_eq_of_lt hX, Nat.mod_eq_of_lt hY]
end Go.Proofs.YtofnhgpiipmegaaDoor.PV
