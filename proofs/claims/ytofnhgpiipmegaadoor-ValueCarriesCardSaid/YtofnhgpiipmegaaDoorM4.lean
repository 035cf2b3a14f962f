/- The plain law of ValueCarries: the bits of a sum follow from the lowest on, with a carry; what was taken away comes back. -/
import Derived.Test.YtofnhgpiipmegaaDoorM2
import Derived.Test.YtofnhgpiipmegaaDoorM3
import Derived.Test.YtofnhgpiipmegaaDoorHCarries
namespace Go.Proofs.YtofnhgpiipmegaaDoor.PV
open Go.RowKit Go.Proofs.YtofnhgpiipmegaaDoorW.PrintWords Go.Proofs.YtofnhgpiipmegaaDoorW.PrintLast Go.Proofs.YtofnhgpiipmegaaDoorW.PrintMore
set_option linter.unusedVariables false
set_option linter.unusedSimpArgs false
theorem awake_at (k : Nat) (h : 40 ≤ k) : turnoutlaw01_awake.f k = some true := at_rounds (g := turnoutlaw01_awake.f) (fun k => turnoutlaw01_awake.mono k) h awake_f
theorem p_zero {N : Nat} (h : N < 2 ^ 128) : (pH N == 0 && (pL N == 0)) = decide (N = 0) := by
  rw [Bool.eq_iff_iff]
  simp only [Bool.and_eq_true, beq_iff_eq, decide_eq_true_eq]
  constructor
  · rintro ⟨e1, e2⟩
    exact p_inj h (by decide) (by rw [e1]; rfl) (by rw [e2]; rfl)
  · rintro rfl; exact ⟨rfl, rfl⟩
theorem back_mod (A B n : Nat) (hB : B < 2 ^ 128) (n2 : n ≤ 128) : ((A + (2 ^ 128 - B)) % 2 ^ n + B) % 2 ^ n = A % 2 ^ n := by
  rw [Nat.mod_add_mod, Nat.add_assoc, Nat.sub_add_cancel (Nat.le_of_lt hB)]
  have : 2 ^ 128 = 2 ^ n * 2 ^ (128 - n) := by rw [← Nat.pow_add, Nat.add_sub_cancel' n2]
  rw [this, Nat.add_mul_mod_self_left]
theorem self_mod (A n : Nat) (hA : A < 2 ^ 128) (n2 : n ≤ 128) : (A + (2 ^ 128 - A)) % 2 ^ n = 0 := by
  rw [Nat.add_sub_cancel' (Nat.le_of_lt hA)]
  have : 2 ^ 128 = 2 ^ n * 2 ^ (128 - n) := by rw [← Nat.pow_add, Nat.add_sub_cancel' n2]
  rw [this, Nat.mul_mod_right]
theorem carries_go (a0 a1 b0 b1 s0 s1 : Int) (n : Nat) (n1 : 1 ≤ n) (n2 : n ≤ 128) (h1 : inU a0 = true) (h2 : inU a1 = true) (h3 : inU b0 = true) (h4 : inU b1 = true)
    (hs0 : s0 = pH ((V a0 a1 + V b0 b1) % 2 ^ n)) (hs1 : s1 = pL ((V a0 a1 + V b0 b1) % 2 ^ n)) :
    ∀ (d k : Nat), k + d = n → ∀ r, d < r → turnoutlaw01_ValueCarries.l0 r n true (cyN (V a0 a1) (V b0 b1) k) ((d : Int) - 1) a0 a1 b0 b1 s0 s1 = some true := by
  have hA := V_lt h1 h2
  have hB := V_lt h3 h4
  have hS : (V a0 a1 + V b0 b1) % 2 ^ n < 2 ^ 128 := mod_lt_128 _ _ n2
  have us0 : inU s0 = true := by rw [hs0]; exact pH_in hS
  have us1 : inU s1 = true := by rw [hs1]; exact pL_in _
  have hVS : V s0 s1 = (V a0 a1 + V b0 b1) % 2 ^ n := by rw [hs0, hs1, V_p hS]
  intro d
  induction d with
  | zero =>
    intro k hk r hr
    obtain ⟨r, rfl⟩ : ∃ m, r = m + 1 := ⟨r - 1, by omega⟩
    simp only [turnoutlaw01_ValueCarries.l0]
    have e1 := back_mod (V a0 a1) (V b0 b1) n hB n2
    have e2 := self_mod (V a0 a1) n hA n2
    have hD : (V a0 a1 + (2 ^ 128 - V b0 b1)) % 2 ^ n < 2 ^ 128 := mod_lt_128 _ _ n2
    have hD2 : (V a0 a1 + (2 ^ 128 - V b0 b1)) % 2 ^ n < 2 ^ n := Nat.mod_lt _ (Nat.two_pow_pos n)
    have hs := Sub_f h1 h2 h3 h4 n n1 n2
    have hs2 := Sub_f h1 h2 h1 h2 n n1 n2
    rw [e2] at hs2
    generalize (V a0 a1 + (2 ^ 128 - V b0 b1)) % 2 ^ n = D at hs hD hD2 e1
    have ha := Add_f (pH_in hD) (pL_in D) h3 h4 n n1 n2
    rw [V_p hD, e1] at ha
    have hf := Fits_f _ _ (pH_in hD) (pL_in D) n n1 n2
    rw [V_p hD, decide_eq_true hD2] at hf
    rw [if_neg (by omega), hs, Option.bind_some]
    dsimp only
    rw [ha, Option.bind_some]
    dsimp only
    rw [hs2, Option.bind_some]
    simp only [if_true]
    rw [Fits_f s0 s1 us0 us1 n n1 n2, hVS, decide_eq_true (Nat.mod_lt _ (Nat.two_pow_pos n))]
    simp only [Option.bind_some, if_true]
    rw [hf]
    simp only [Option.bind_some, if_true]
    rw [Cut_f a0 a1 h1 h2 n n1 n2]
    simp only [Option.bind_some]
    rw [if_pos (by simp), p_zero (by decide)]
    rfl
  | succ d ih =>
    intro k hk r hr
    obtain ⟨r, rfl⟩ : ∃ m, r = m + 1 := ⟨r - 1, by omega⟩
    simp only [turnoutlaw01_ValueCarries.l0]
    have ei : (((d + 1 : Nat) : Int) - 1) = ((d : Nat) : Int) := by omega
    rw [ei, if_pos (by omega), Bit_f a0 a1 h1 h2 n d n2 (by omega)]
    simp only [Option.bind_some]
    rw [Bit_f b0 b1 h3 h4 n d n2 (by omega)]
    simp only [Option.bind_some]
    rw [Bit_f s0 s1 us0 us1 n d n2 (by omega), hVS]
    simp only [Option.bind_some]
    have ek : n - 1 - d = k := by omega
    rw [ek, sum_bit _ _ n k hA hB n2 (by omega)]
    have hw : wrap64 ((d : Int) - 1) = (d : Int) - 1 := wrap64_small (by omega) (by omega)
    have hn := ih (k + 1) (by omega) r (by omega)
    rw [cyN_succ _ _ _ hA hB] at hn
    rw [hw]
    revert hn
    cases (V a0 a1).testBit k <;> cases (V b0 b1).testBit k <;> cases cyN (V a0 a1) (V b0 b1) k <;> (intro hn; simpa using hn)
/-- The plain law. -/
theorem ValueCarries_pure (a0 a1 b0 b1 w : Int) (h1 : inU a0 = true) (h2 : inU a1 = true) (h3 : inU b0 = true) (h4 : inU b1 = true) : ∃ k, turnoutlaw01_ValueCarries.f k a0 a1 b0 b1 w = some true := by
  refine ⟨200, ?_⟩
  unfold turnoutlaw01_ValueCarries.f
  rw [awake_at 200 (by decide)]
  simp only [Option.bind_some]
  by_cases hw : 1 ≤ w ∧ w ≤ 128
  · obtain ⟨n, rfl⟩ : ∃ n : Nat, w = n := ⟨w.toNat, by omega⟩
    rw [if_neg (by omega), decide_eq_false (by omega : ¬ (n : Int) > 128)]
    simp only [turnoutlaw01_ValueCarries.j0, Bool.false_eq_true, if_false]
    rw [Add_f h1 h2 h3 h4 n (by omega) (by omega)]
    simp only [Option.bind_some]
    rw [wrap64_small (by omega) (by omega)]
    have := carries_go a0 a1 b0 b1 _ _ n (by omega) (by omega) h1 h2 h3 h4 rfl rfl n 0 (by omega) 199 (by omega)
    rw [cyN_zero] at this
    exact this
  · by_cases h0 : w < 1
    · rw [if_pos h0]
      simp only [turnoutlaw01_ValueCarries.j0, if_true]
    · rw [if_neg h0, decide_eq_true (by omega : w > 128)]
      simp only [turnoutlaw01_ValueCarries.j0, if_true]
end Go.Proofs.YtofnhgpiipmegaaDoor.PV
