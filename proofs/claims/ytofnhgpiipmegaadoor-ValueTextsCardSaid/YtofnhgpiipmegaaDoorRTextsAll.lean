/- ValueTexts: the row and its card. -/
import Derived.Test.YtofnhgpiipmegaaDoorMAll
import Derived.Test.YtofnhgpiipmegaaDoorHDigits
import Derived.Test.YtofnhgpiipmegaaDoorPVx7
import Derived.Test.YtofnhgpiipmegaaDoorPVx8
import Derived.Test.YtofnhgpiipmegaaDoorHPiecesAll
import Derived.Test.YtofnhgpiipmegaaDoorPVx5
import Derived.Test.YtofnhgpiipmegaaDoorPVx9
import Derived.Test.YtofnhgpiipmegaaDoorPVx10
import Derived.Test.YtofnhgpiipmegaaDoorPVx12
import Derived.Test.YtofnhgpiipmegaaDoorPVx15
import Derived.Test.YtofnhgpiipmegaaDoorHText
import Derived.Test.YtofnhgpiipmegaaDoorT20
import Derived.Test.YtofnhgpiipmegaaDoorHLaid
import Derived.SizedLaws
import Derived.ChangeMaps5
namespace Go.Proofs.YtofnhgpiipmegaaDoor.PV
open Go.RowKit Go.Proofs.YtofnhgpiipmegaaDoorW.PrintWords Go.Proofs.YtofnhgpiipmegaaDoorW.PrintLast Go.Proofs.YtofnhgpiipmegaaDoorW.PrintMore
set_option linter.unusedVariables false
set_option linter.unusedSimpArgs false
theorem lay_top {A : Nat} (hA : A < 2 ^ 128) : layL (pH A) (pL A) = topL 128 A := by rw [layL_top (pH_in hA) (pL_in A), V_p hA]
theorem top_step (A k : Nat) (h : k < 128) : A / 2 ^ (128 - (k + 1)) = 2 * (A / 2 ^ (128 - k)) + (A.testBit (127 - k)).toNat := by
  have e : 128 - k = (127 - k) + 1 := by omega
  rw [show 128 - (k + 1) = 127 - k from by omega, e, Nat.pow_succ, ← Nat.div_div_eq_div_mul, Nat.testBit_eq_decide_div_mod_eq]
  generalize A / 2 ^ (127 - k) = q
  by_cases hq : q % 2 = 1
  · simp [hq]; omega
  · simp [hq]; omega
theorem rep_set (k m : Nat) (l : List Bool) (hl : l.length = k) : (l ++ List.replicate (m + 1) false).set k true = (l ++ [true]) ++ List.replicate m false := by
  rw [List.set_append_right _ _ (by omega), hl, Nat.sub_self, List.replicate_succ, List.append_assoc]; rfl
theorem dv_top (A b : Nat) (hA : A < 2 ^ 128) (hb : 1 ≤ b) : ∀ k, k ≤ 128 → dvL (topL 128 A) b k = ((A / 2 ^ (128 - k) % b : Nat) : Int) ∧ dvO (topL 128 A) b k = topL k (A / 2 ^ (128 - k) / b) ++ List.replicate (128 - k) false
  | 0, _ => by simp [dvL, dvO, topL, Nat.div_eq_of_lt hA]
  | k + 1, h => by
    obtain ⟨ih1, ih2⟩ := dv_top A b hA hb k (by omega)
    have hs := top_step A k (by omega)
    have hg : (topL 128 A).getD k false = A.testBit (127 - k) := by rw [topL_get _ _ _ (by omega)]
    have e1 : dvL (topL 128 A) b (k + 1) = if (b : Int) ≤ 2 * dvL (topL 128 A) b k + (if (topL 128 A).getD k false then 1 else 0) then 2 * dvL (topL 128 A) b k + (if (topL 128 A).getD k false then 1 else 0) - b else 2 * dvL (topL 128 A) b k + (if (topL 128 A).getD k false then 1 else 0) := rfl
    have e2 : dvO (topL 128 A) b (k + 1) = if (b : Int) ≤ 2 * dvL (topL 128 A) b k + (if (topL 128 A).getD k false then 1 else 0) then (dvO (topL 128 A) b k).set k true else dvO (topL 128 A) b k := rfl
    have hv : 2 * dvL (topL 128 A) b k + (if (topL 128 A).getD k false then 1 else 0) = ((2 * (A / 2 ^ (128 - k) % b) + (A.testBit (127 - k)).toNat : Nat) : Int) := by
      rw [ih1, hg]; cases A.testBit (127 - k) <;> simp
    rw [e1, e2, hv, ih2, hs]
    generalize A / 2 ^ (128 - k) = P
    generalize hc : (A.testBit (127 - k)).toNat = c
    have hc1 : c ≤ 1 := by rw [← hc]; cases A.testBit (127 - k) <;> simp
    have hd : b * (P / b) + P % b = P := Nat.div_add_mod P b
    have hm : P % b < b := Nat.mod_lt _ (by omega)
    have hrep : 128 - k = (128 - (k + 1)) + 1 := by omega
    generalize hq : P / b = q at *
    generalize hr : P % b = r at *
    by_cases hle : b ≤ 2 * r + c
    · have h1 : (2 * P + c) / b = 2 * q + 1 := by
        rw [show 2 * P + c = (2 * r + c - b) + b * (2 * q + 1) from by rw [← hd, Nat.mul_add, Nat.mul_add, ← Nat.mul_assoc, ← Nat.mul_assoc, Nat.mul_comm b 2]; omega]
        rw [Nat.add_mul_div_left _ _ (by omega), Nat.div_eq_of_lt (by omega)]; omega
      have h2 : (2 * P + c) % b = 2 * r + c - b := by
        rw [show 2 * P + c = (2 * r + c - b) + b * (2 * q + 1) from by rw [← hd, Nat.mul_add, Nat.mul_add, ← Nat.mul_assoc, ← Nat.mul_assoc, Nat.mul_comm b 2]; omega]
        rw [Nat.add_mul_mod_self_left, Nat.mod_eq_of_lt (by omega)]
      rw [if_pos (by omega), if_pos (by omega), h1, h2]
      refine ⟨by omega, ?_⟩
      rw [hrep, rep_set k _ _ (topL_length _ _), topL_snoc]
      congr 2
      · congr 1; omega
      · simp
    · have h1 : (2 * P + c) / b = 2 * q := by
        rw [show 2 * P + c = (2 * r + c) + b * (2 * q) from by rw [← hd, Nat.mul_add, ← Nat.mul_assoc, ← Nat.mul_assoc, Nat.mul_comm b 2]; omega]
        rw [Nat.add_mul_div_left _ _ (by omega), Nat.div_eq_of_lt (by omega)]; omega
      have h2 : (2 * P + c) % b = 2 * r + c := by
        rw [show 2 * P + c = (2 * r + c) + b * (2 * q) from by rw [← hd, Nat.mul_add, ← Nat.mul_assoc, ← Nat.mul_assoc, Nat.mul_comm b 2]; omega]
        rw [Nat.add_mul_mod_self_left, Nat.mod_eq_of_lt (by omega)]
      rw [if_neg (by omega), if_neg (by omega), h1, h2]
      refine ⟨by omega, ?_⟩
      rw [hrep, topL_snoc, List.replicate_succ, show 2 * q / 2 = q from by omega]
      simp
theorem divided_f (A b : Nat) (hA : A < 2 ^ 128) (hb : 1 ≤ b) (hb2 : b ≤ 1048576) : turnoutref01_divided.f (pH A) (pL A) b = some (pH (A / b), pL (A / b), ((A % b : Nat) : Int)) := by
  unfold turnoutref01_divided.f
  rw [if_pos (by omega), lay_top hA]
  obtain ⟨h1, h2⟩ := dv_top A b hA hb 128 (Nat.le_refl _)
  have e : A / 2 ^ (128 - 128) = A := by simp
  rw [h1, h2, e]
  have hq : A / b < 2 ^ 128 := Nat.lt_of_le_of_lt (Nat.div_le_self _ _) hA
  simp only [Nat.sub_self, List.replicate_zero, List.append_nil]
  rw [takeHi_top hq, takeLo_top]
theorem sign_f (n : Nat) (h : n < 16) : turnoutref01_sign.f n = some (signI n) := by
  have : ∀ n < 16, turnoutref01_sign.f ((n : Nat) : Int) = some (signI n) := by decide +kernel
  exact this n h
/-- The digits' bytes. -/
def dgB (b v : Nat) : ByteArray := ⟨((dgs b 128 v []).map signN).toArray⟩
theorem strOf_sign (l : List Nat) : strOfNums (l.map signI) = ⟨(l.map signN).toArray⟩ := by simp [strOfNums, signN]
theorem digits_rev (x5 : List Int) (hl : x5.length < 100000) : ∀ (d k : Nat) (x8 : List Int), d ≤ x5.length → x8.length = x5.length - d → d < k →
    turnoutref01_digits.l1 k x5 x8 ((d : Int) - 1) = some (strOfNums (x8 ++ (x5.take d).reverse))
  | 0, k, x8, _, _, hk => by
    obtain ⟨k, rfl⟩ : ∃ j, k = j + 1 := ⟨k - 1, by omega⟩
    simp only [turnoutref01_digits.l1]
    rw [if_neg (by omega)]; simp
  | d + 1, k, x8, h1, h2, hk => by
    obtain ⟨k, rfl⟩ : ∃ j, k = j + 1 := ⟨k - 1, by omega⟩
    simp only [turnoutref01_digits.l1]
    rw [if_pos (by omega), if_pos (by omega), if_pos (by omega), if_pos (by omega)]
    have e : wrap64 (((d + 1 : Nat) : Int) - 1 - 1) = (d : Int) - 1 := by unfold wrap64; omega
    have e2 : rd x5 (((d + 1 : Nat) : Int) - 1) = x5.getD d 0 := by
      rw [show (((d + 1 : Nat) : Int) - 1) = (d : Int) from by omega]; simp [rd]
    rw [e, e2, digits_rev x5 hl d k _ (by omega) (by rw [List.length_append]; simp; omega) (by omega)]
    congr 2
    have hd : d < x5.length := by omega
    rw [List.take_succ_eq_append_getElem hd, List.reverse_append, List.append_assoc]
    simp [List.getD, hd]
theorem digits_go (b : Nat) (hb : 2 ≤ b) (hb2 : b ≤ 16) : ∀ (f v : Nat) (acc : List Nat) (k : Nat), v < 2 ^ f → 1 ≤ f → f ≤ 128 → acc.length + f ≤ 128 → (acc = [] ∨ v ≠ 0) → 2 * f + acc.length + f + 10 ≤ k →
    turnoutref01_digits.l0 k b (acc.reverse.map signI) (pH v) (pL v) = some ⟨((dgs b f v acc).map signN).toArray⟩
  | 0, _, _, _, _, h, _, _, _, _ => by omega
  | f + 1, v, acc, k, hv, h1, h128, hacc, hne, hk => by
    obtain ⟨k, rfl⟩ : ∃ j, k = j + 2 := ⟨k - 2, by omega⟩
    have hA : v < 2 ^ 128 := Nat.lt_of_lt_of_le hv (Nat.pow_le_pow_right (by decide) h128)
    have step : turnoutref01_digits.l0 (k + 2) b (acc.reverse.map signI) (pH v) (pL v) = turnoutref01_digits.j1 (k + 1) b (acc.reverse.map signI) true (pH v) (pL v) := by
      simp only [turnoutref01_digits.l0]
      rcases hne with rfl | hne
      · rw [if_pos (by simp)]
      · by_cases hz : ((acc.reverse.map signI).length : Int) = 0
        · rw [if_pos hz]
        · rw [if_neg hz]
          congr 1
          have : ¬ (pH v = 0 ∧ pL v = 0) := by
            rintro ⟨a, c⟩
            apply hne
            have := V_p hA
            rw [a, c] at this
            simpa [V] using this.symm
          by_cases q1 : pH v = 0
          · by_cases q2 : pL v = 0
            · exact absurd ⟨q1, q2⟩ this
            · simp [q2]
          · simp [q1]
    rw [step]
    simp only [turnoutref01_digits.j1]
    have hm : v % b < 16 := Nat.lt_of_lt_of_le (Nat.mod_lt _ (by omega)) hb2
    rw [if_pos trivial, divided_f v b hA (by omega) (by omega), Option.bind_some]
    dsimp only
    rw [sign_f _ hm, Option.bind_some, if_pos (by simp; omega)]
    have e : acc.reverse.map signI ++ [signI (v % b)] = ((v % b) :: acc).reverse.map signI := by simp
    rw [e]
    have hd : dgs b (f + 1) v acc = if v / b = 0 then v % b :: acc else dgs b f (v / b) (v % b :: acc) := rfl
    by_cases hz : v / b = 0
    · rw [hd, if_pos hz, hz]
      have stop : turnoutref01_digits.l0 k b (((v % b) :: acc).reverse.map signI) (pH 0) (pL 0) = turnoutref01_digits.j1 (k - 1) b (((v % b) :: acc).reverse.map signI) false (pH 0) (pL 0) := by
        obtain ⟨k, rfl⟩ : ∃ j, k = j + 1 := ⟨k - 1, by omega⟩
        simp only [turnoutref01_digits.l0]
        rw [if_neg (by simp; omega)]
        rfl
      rw [stop]
      obtain ⟨k, rfl⟩ : ∃ j, k = j + 2 := ⟨k - 2, by omega⟩
      simp only [show k + 2 - 1 = k + 1 from rfl, turnoutref01_digits.j1]
      rw [if_neg (by decide)]
      have hl : (((v % b) :: acc).reverse.map signI).length = acc.length + 1 := by simp
      rw [hl, wrap64_small (by omega) (by omega)]
      rw [digits_rev _ (by rw [hl]; omega) (acc.length + 1) k [] (by rw [hl]; omega) (by rw [hl]; simp) (by omega)]
      rw [List.take_of_length_le (by rw [hl]; omega), List.nil_append, ← List.map_reverse, List.reverse_reverse, strOf_sign]
    · rw [hd, if_neg hz]
      have hvb : v / b < 2 ^ f := by
        have : v / b ≤ v / 2 := Nat.div_le_div_left hb (by omega)
        rw [Nat.pow_succ] at hv
        omega
      have hf : 1 ≤ f := by
        rcases Nat.eq_zero_or_pos f with rfl | h
        · rw [Nat.pow_zero] at hvb; exact absurd (Nat.lt_one_iff.1 hvb) hz
        · exact h
      exact digits_go b hb hb2 f (v / b) (v % b :: acc) k hvb hf (by omega) (by rw [List.length_cons]; omega) (.inr hz) (by rw [List.length_cons]; omega)
theorem ref_digits (b v k : Nat) (hb : 2 ≤ b) (hb2 : b ≤ 16) (hv : v < 2 ^ 128) (hk : 400 ≤ k) : turnoutref01_digits.f k (pH v) (pL v) b = some (dgB b v) :=
  digits_go b hb hb2 128 v [] k hv (by decide) (Nat.le_refl _) (by simp) (.inl rfl) (by simp; omega)
theorem own_digits (b v : Nat) (hb : b = 2 ∨ b = 10 ∨ b = 16) (hv : v < 2 ^ 128) : value_digits.f (pH v) (pL v) b = some (dgB b v) := by
  unfold value_digits.f dgB
  have e : (pH v * 18446744073709551616 + pL v).toNat = v := by
    have := V_p hv
    unfold V at this
    rw [two64] at this
    have h1 := inU_lo (pH_in hv); have h2 := inU_lo (pL_in v)
    omega
  rw [if_pos ⟨pH_in hv, pL_in v, by omega⟩, e, Int.toNat_natCast]
theorem refCut_f {A : Nat} (hA : A < 2 ^ 128) (n : Nat) (n1 : 1 ≤ n) (n2 : n ≤ 128) : turnoutref01_Cut.f (pH A) (pL A) n = some (pH (A % 2 ^ n), pL (A % 2 ^ n)) := by
  unfold turnoutref01_Cut.f
  have hm : A % 2 ^ n < 2 ^ 128 := Nat.lt_of_le_of_lt (Nat.mod_le _ _) hA
  rw [if_pos (by omega), lay_top hA, cutL_top _ _ (by omega), show 128 - (128 - ((n : Int)).toNat) = n from by omega, takeHi_top hm, takeLo_top]
theorem refAdd_f {A B : Nat} (hA : A < 2 ^ 128) (hB : B < 2 ^ 128) : turnoutref01_Add.f (pH A) (pL A) (pH B) (pL B) 128 = some (pH ((A + B) % 2 ^ 128), pL ((A + B) % 2 ^ 128)) := by
  unfold turnoutref01_Add.f
  have hm : (A + B) % 2 ^ 128 < 2 ^ 128 := Nat.mod_lt _ (Nat.two_pow_pos 128)
  rw [lay_top hA, lay_top hB, sum_top A B hA hB, takeHi_top hm, takeLo_top, show (128 : Int) = ((128 : Nat) : Int) from rfl, refCut_f hm 128 (by decide) (Nat.le_refl _), Nat.mod_mod]
theorem refFits_f {A : Nat} (hA : A < 2 ^ 128) (n : Nat) (n1 : 1 ≤ n) (n2 : n ≤ 128) : turnoutref01_Fits.f (pH A) (pL A) n = some (decide (A < 2 ^ n)) := by
  unfold turnoutref01_Fits.f
  rw [width_yes (by omega), Option.bind_some, if_pos rfl, refCut_f hA n n1 n2, Option.bind_some]
  dsimp only
  have hm : A % 2 ^ n < 2 ^ 128 := Nat.lt_of_le_of_lt (Nat.mod_le _ _) hA
  congr 1
  by_cases h : A < 2 ^ n
  · rw [Nat.mod_eq_of_lt h, decide_eq_true h]; simp
  · rw [decide_eq_false h]
    have hne : ¬ (pH (A % 2 ^ n) = pH A ∧ pL (A % 2 ^ n) = pL A) := by
      rintro ⟨h1, h2⟩
      have := p_inj hm hA h1 h2
      have hl := Nat.mod_lt A (Nat.two_pow_pos n)
      omega
    by_cases q : pH (A % 2 ^ n) = pH A
    · have q2 : ¬ pL (A % 2 ^ n) = pL A := fun h2 => hne ⟨q, h2⟩
      simp [q2]
    · simp [q]
theorem more_go (A b n k : Nat) (hA : A < 2 ^ 128) (hb : b ≤ 256) : ∀ (d i X : Nat), i + d = b → X < 2 ^ 128 → d < k →
    turnoutref01_more.l0 k b i (pH A) (pL A) (pH X) (pL X) = some (pH ((X + d * A) % 2 ^ 128), pL ((X + d * A) % 2 ^ 128)) := by
  induction k with
  | zero => intro d i X _ _ h; omega
  | succ k ih =>
    intro d i X hi hX hk
    simp only [turnoutref01_more.l0]
    cases d with
    | zero => rw [if_neg (by omega), Nat.zero_mul, Nat.add_zero, Nat.mod_eq_of_lt hX]
    | succ d =>
      rw [if_pos (by omega), refAdd_f hX hA, Option.bind_some]
      dsimp only
      have e : wrap64 ((i : Int) + 1) = ((i + 1 : Nat) : Int) := by unfold wrap64; omega
      rw [e, ih d (i + 1) _ (by omega) (Nat.mod_lt _ (Nat.two_pow_pos 128)) (by omega)]
      have e2 : ((X + A) % 2 ^ 128 + d * A) % 2 ^ 128 = (X + (d + 1) * A) % 2 ^ 128 := by
        rw [Nat.mod_add_mod, Nat.succ_mul]; congr 1; omega
      rw [e2]
theorem more_f (A b n k : Nat) (hA : A < 2 ^ 128) (hb : b ≤ 256) (hn : n < 2 ^ 64) (hk : 300 ≤ k) : turnoutref01_more.f k (pH A) (pL A) b n = some (pH ((A * b + n) % 2 ^ 128), pL ((A * b + n) % 2 ^ 128)) := by
  unfold turnoutref01_more.f
  have hn' : n < 2 ^ 128 := Nat.lt_of_lt_of_le hn (Nat.pow_le_pow_right (by decide) (by decide))
  have e0 : (0 : Int) = pH n := by unfold pH; rw [Nat.div_eq_of_lt hn]; rfl
  have e1 : IntKind.u64.wrap (n : Int) = pL n := by unfold pL; rw [Nat.mod_eq_of_lt hn, wrapU_eq]; rw [two64] at hn; omega
  have h := more_go A b n k hA hb b 0 n (by omega) hn' (by omega)
  rw [e1, Nat.mul_comm A b, Nat.add_comm (b * A) n, ← h]
  conv => lhs; rw [show (0 : Int) = ((0 : Nat) : Int) from rfl]
  rw [← e0]
  rfl
end Go.Proofs.YtofnhgpiipmegaaDoor.PV
namespace Go.Proofs.YtofnhgpiipmegaaDoor.PV
open Go.RowKit Go.Proofs.YtofnhgpiipmegaaDoorW.PrintWords Go.Proofs.YtofnhgpiipmegaaDoorW.PrintLast Go.Proofs.YtofnhgpiipmegaaDoorW.PrintMore
set_option linter.unusedVariables false
set_option linter.unusedSimpArgs false
/-- What a byte is worth as a digit (99: none). -/
def wN (c : UInt8) : Nat := (worthI c.toNat).toNat
theorem wN_eq (c : UInt8) : worthI c.toNat = (wN c : Int) := by
  have := worth_bd (c.toNat : Int)
  unfold wN; omega
def numT (b : Nat) : List UInt8 → Nat → Option Nat
  | [], v => some v
  | c :: r, v => if wN c < b then numT b r (v * b + wN c) else none
def numV (b : Nat) : List UInt8 → Option Nat
  | [] => none
  | [c] => numT b [c] 0
  | c :: d :: r => if c = 48 then none else numT b (c :: d :: r) 0
def resN : Option Nat → Int × Int × Bool × Bool
  | none => (0, 0, false, false)
  | some v => (pH (v % 2 ^ 128), pL (v % 2 ^ 128), decide (v < 2 ^ 128), true)
theorem num_step (A b n : Nat) (hA : A < 2 ^ 128) (hb : 2 ≤ b) (hb2 : b ≤ 16) (hn : n < 100) :
    nLo (pL A) n b = pL ((A * b + n) % 2 ^ 128) ∧ nHi (pH A) (pL A) n b = pH ((A * b + n) % 2 ^ 128) ∧ (∀ f, nF f (pH A) (pL A) n b = (f && decide (A * b + n < 2 ^ 128))) := by
  obtain ⟨h, hh⟩ : ∃ h, A / 2 ^ 64 = h := ⟨_, rfl⟩
  obtain ⟨l, hl⟩ : ∃ l, A % 2 ^ 64 = l := ⟨_, rfl⟩
  have hA2 : A = 2 ^ 64 * h + l := by rw [← hh, ← hl]; exact (Nat.div_add_mod A (2 ^ 64)).symm
  have e1 : pH A = (h : Int) := by unfold pH; rw [hh]
  have e2 : pL A = (l : Int) := by unfold pL; rw [hl]
  have hl2 : l < 2 ^ 64 := by rw [← hl]; exact Nat.mod_lt _ (Nat.two_pow_pos 64)
  have eM : A * b + n = 2 ^ 64 * (h * b) + (l * b + n) := by rw [hA2, Nat.add_mul, Nat.mul_assoc]; omega
  have ch : (h : Int) * (b : Int) = ((h * b : Nat) : Int) := by simp
  have cl : (l : Int) * (b : Int) = ((l * b : Nat) : Int) := by simp
  have bl1 : l * b ≤ l * 16 := Nat.mul_le_mul_left _ hb2
  rw [e1, e2, eM]
  unfold nHi nF nBy nCy nLo mulHi mulLo addHi addCz pH pL
  rw [ch, cl]
  rw [two64] at *
  rw [two128] at *
  generalize h * b = p
  generalize hq : l * b = q at *
  refine ⟨by omega, by omega, fun f => ?_⟩
  cases f
  · rfl
  · rw [Bool.true_and, Bool.true_and, Bool.eq_iff_iff]
    simp only [Bool.and_eq_true, beq_iff_eq, decide_eq_true_eq]
    omega
theorem numGo_eq (b : Nat) (hb : 2 ≤ b) (hb2 : b ≤ 16) : ∀ (l : List UInt8) (v : Nat), numGo b l (pH (v % 2 ^ 128)) (pL (v % 2 ^ 128)) (decide (v < 2 ^ 128)) = resN (numT b l v)
  | [], v => rfl
  | c :: r, v => by
    simp only [numGo, numT]
    rw [wN_eq]
    by_cases h : wN c < b
    · rw [if_neg (by omega), if_pos h]
      have hm := Nat.mod_lt v (Nat.two_pow_pos 128)
      obtain ⟨s1, s2, s3⟩ := num_step (v % 2 ^ 128) b (wN c) hm hb hb2 (by omega)
      rw [s1, s2, s3, ← numGo_eq b hb hb2 r (v * b + wN c)]
      have e : (v % 2 ^ 128 * b + wN c) % 2 ^ 128 = (v * b + wN c) % 2 ^ 128 := by rw [Nat.add_mod, Nat.mod_mul_mod, ← Nat.add_mod]
      rw [e]
      congr 1
      rw [Bool.eq_iff_iff]
      simp only [Bool.and_eq_true, decide_eq_true_eq]
      constructor
      · rintro ⟨h1, h2⟩; rwa [Nat.mod_eq_of_lt h1] at h2
      · intro h2
        have h1 : v < 2 ^ 128 := by
          have : v * 1 ≤ v * b := Nat.mul_le_mul_left _ (by omega)
          omega
        exact ⟨h1, by rwa [Nat.mod_eq_of_lt h1]⟩
    · rw [if_pos (by omega), if_neg h]; rfl
theorem numAll_eq (b : Nat) (hb : 2 ≤ b) (hb2 : b ≤ 16) (l : List UInt8) : numAll b l = resN (numV b l) := by
  have z : ∀ l, numGo b l 0 0 true = resN (numT b l 0) := fun l => numGo_eq b hb hb2 l 0
  match l with
  | [] => rfl
  | [c] => exact z [c]
  | c :: d :: r =>
    simp only [numAll, numV]
    split
    · rfl
    · exact z _
theorem own_number (b : Nat) (hb : 2 ≤ b) (hb2 : b ≤ 16) (s : ByteArray) (hs : s.size ≤ 140737488351232) : value_number.f s b = some (resN (numV b s.data.toList)) := by
  unfold value_number.f; rw [if_pos ⟨hs, by omega, by omega⟩, numAll_eq b hb hb2]
theorem worth_all (b : Nat) (hb : b = 2 ∨ b = 10 ∨ b = 16) : ∀ c < 256, turnoutref01_worth.f 20 ((c : Nat) : Int) b = some (if (worthI c).toNat < b then worthI c else -1) := by
  rcases hb with rfl | rfl | rfl <;> decide +kernel
theorem ref_worth (b k : Nat) (hb : b = 2 ∨ b = 10 ∨ b = 16) (c : UInt8) (hk : 20 ≤ k) : turnoutref01_worth.f k c.toNat b = some (if wN c < b then (wN c : Int) else -1) := by
  have h := worth_all b hb c.toNat (UInt8.toNat_lt c)
  have : worthI (c.toNat : Int) = (wN c : Int) := wN_eq c
  rw [this] at h
  exact at_rounds (g := fun k => turnoutref01_worth.f k c.toNat b) (fun k => turnoutref01_worth.mono _ _ k) hk h
theorem bt_drop (s : ByteArray) (i : Nat) (h : i < s.size) : ∃ c r, s.data.toList.drop i = c :: r ∧ s.data.toList.drop (i + 1) = r ∧ bt s i = (c.toNat : Int) := by
  refine ⟨s[i]'h, s.data.toList.drop (i + 1), drop_consA s i h, rfl, ?_⟩
  have := bt_at s i (by simpa using h)
  rw [← this]; rfl
/-- What the reference's number comes to. -/
def RefRes (o : Option Nat) (r : Int × Int × Bool × Bool) : Prop :=
  match o with
  | none => r = (0, 0, false, false)
  | some v => r.2.2 = (decide (v < 2 ^ 128), true) ∧ (v < 2 ^ 128 → r.1 = pH v ∧ r.2.1 = pL v)
theorem ref_number_go (s : ByteArray) (hs : s.size ≤ 140737488351232) (b : Nat) (hb : b = 2 ∨ b = 10 ∨ b = 16) : ∀ (d i v k : Nat) (hi lo : Int), i + d = s.size → (v < 2 ^ 128 → hi = pH v ∧ lo = pL v) → d + 400 ≤ k →
    ∃ r, turnoutref01_number.l0 k s b (decide (v < 2 ^ 128)) i hi lo = some r ∧ RefRes (numT b (s.data.toList.drop i) v) r
  | 0, i, v, k, hi, lo, hd, hv, hk => by
    obtain ⟨k, rfl⟩ : ∃ j, k = j + 1 := ⟨k - 1, by omega⟩
    refine ⟨(hi, lo, decide (v < 2 ^ 128), true), ?_, ?_⟩
    · simp only [turnoutref01_number.l0]; rw [if_neg (by omega)]
    · rw [List.drop_eq_nil_of_le (by rw [data_length]; omega)]
      exact ⟨rfl, hv⟩
  | d + 1, i, v, k, hi, lo, hd, hv, hk => by
    obtain ⟨k, rfl⟩ : ∃ j, k = j + 1 := ⟨k - 1, by omega⟩
    obtain ⟨c, r, hc1, hc2, hbt⟩ := bt_drop s i (by omega)
    have hb2 : 2 ≤ b := by omega
    have hb16 : b ≤ 16 := by omega
    have e1 : wrap64 ((i : Int) + 1) = ((i + 1 : Nat) : Int) := by unfold wrap64; omega
    simp only [turnoutref01_number.l0]
    rw [if_pos (by omega), if_pos (by omega), hbt, ref_worth b k hb c (by omega), Option.bind_some, hc1, e1]
    simp only [numT]
    by_cases hw : wN c < b
    · rw [if_pos hw, if_pos hw, if_neg (by omega)]
      by_cases hf : v < 2 ^ 128
      · obtain ⟨rfl, rfl⟩ := hv hf
        have hX := Nat.mod_lt (v * b + wN c) (Nat.two_pow_pos 128)
        rw [if_pos (by simp [hf]), more_f v b (wN c) k hf (by omega) (by rw [two64]; omega) (by omega), Option.bind_some]
        dsimp only
        rw [divided_f _ b hX (by omega) (by omega), Option.bind_some]
        dsimp only
        have hXb : (v * b + wN c) % 2 ^ 128 / b < 2 ^ 128 := Nat.lt_of_le_of_lt (Nat.div_le_self _ _) hX
        have key : ∀ (f : Bool) (y : Nat), f = decide (y < 2 ^ 128) → y = v * b + wN c → ∃ r', turnoutref01_number.l0 k s b f ((i + 1 : Nat) : Int) (pH ((v * b + wN c) % 2 ^ 128)) (pL ((v * b + wN c) % 2 ^ 128)) = some r' ∧ RefRes (numT b r (v * b + wN c)) r' := by
          rintro f y rfl rfl
          rw [← hc2]
          exact ref_number_go s hs b hb d (i + 1) _ k _ _ (by omega) (fun h => by rw [Nat.mod_eq_of_lt h]; exact ⟨rfl, rfl⟩) (by omega)
        by_cases hy : v * b + wN c < 2 ^ 128
        · have q1 : (v * b + wN c) / b = v := by rw [Nat.mul_comm, Nat.mul_add_div (by omega), Nat.div_eq_of_lt hw]; omega
          have q2 : (v * b + wN c) % b = wN c := by rw [Nat.mul_comm, Nat.mul_add_mod, Nat.mod_eq_of_lt hw]
          have e2 := Nat.mod_eq_of_lt hy
          rw [e2, q1, q2, if_pos (by simp)]
          rw [e2] at key
          exact key _ _ (by rw [decide_eq_true hy]; simp) rfl
        · have ne : ¬ ((v * b + wN c) % 2 ^ 128 / b = v ∧ (v * b + wN c) % 2 ^ 128 % b = wN c) := by
            rintro ⟨a1, a2⟩
            have := Nat.div_add_mod ((v * b + wN c) % 2 ^ 128) b
            rw [a1, a2, Nat.mul_comm] at this
            omega
          split
          · rename_i ht
            have hq : (v * b + wN c) % 2 ^ 128 / b = v := by
              simp only [Bool.and_eq_true, beq_iff_eq] at ht
              exact p_inj hXb hf ht.1 ht.2
            have hq2 : ¬ (v * b + wN c) % 2 ^ 128 % b = wN c := fun h => ne ⟨hq, h⟩
            exact key _ _ (by rw [decide_eq_false hy]; exact beq_eq_false_iff_ne.2 (fun h => hq2 (Int.ofNat.inj h))) rfl
          · exact key _ _ (by rw [decide_eq_false hy]) rfl
      · rw [if_neg (by simp [hf]), decide_eq_false hf]
        have hy : ¬ v * b + wN c < 2 ^ 128 := by
          have : v * 1 ≤ v * b := Nat.mul_le_mul_left _ (by omega)
          omega
        have := ref_number_go s hs b hb d (i + 1) (v * b + wN c) k 0 0 (by omega) (fun h => absurd h hy) (by omega)
        rw [decide_eq_false hy, hc2] at this
        exact this
    · rw [if_neg hw, if_neg hw, if_pos (by decide)]
      exact ⟨_, rfl, rfl⟩
theorem ref_number (s : ByteArray) (hs : s.size ≤ 140737488351232) (b : Nat) (hb : b = 2 ∨ b = 10 ∨ b = 16) (k : Nat) (hk : s.size + 500 ≤ k) :
    ∃ r, turnoutref01_number.f k s b = some r ∧ RefRes (numV b s.data.toList) r := by
  obtain ⟨k, rfl⟩ : ∃ j, k = j + 1 := ⟨k - 1, by omega⟩
  have hl := data_length s
  have go := ref_number_go s hs b hb s.size 0 0 k 0 0 (by omega) (fun _ => ⟨rfl, rfl⟩) (by omega)
  rw [List.drop_zero] at go
  have go' : ∃ r, turnoutref01_number.j0 (k + 1) s b false = some r ∧ RefRes (numT b s.data.toList 0) r := by
    simp only [turnoutref01_number.j0]; rw [if_neg (by decide)]; exact go
  unfold turnoutref01_number.f
  cases hd : s.data.toList with
  | nil =>
    have h0 : s.size = 0 := by rw [← hl, hd]; rfl
    rw [if_pos (by omega)]
    exact ⟨(0, 0, false, false), by simp only [turnoutref01_number.j0]; rw [if_pos trivial], rfl⟩
  | cons c r =>
    rw [hd] at go'
    have hpos : 0 < s.size := by rw [← hl, hd]; simp
    rw [if_neg (by omega)]
    cases r with
    | nil =>
      have h1 : s.size = 1 := by rw [← hl, hd]; rfl
      rw [if_neg (by omega)]
      exact go'
    | cons d r =>
      have h1 : 1 < s.size := by rw [← hl, hd]; simp
      rw [if_pos (by omega), if_pos (by omega)]
      obtain ⟨c', r', e1, e2, e3⟩ := bt_drop s 0 hpos
      rw [List.drop_zero, hd] at e1
      obtain rfl : c = c' := (List.cons.inj e1).1
      rw [show (0 : Int) = ((0 : Nat) : Int) from rfl, e3]
      by_cases h48 : c = 48
      · subst h48
        exact ⟨(0, 0, false, false), by simp only [turnoutref01_number.j0]; rw [if_pos (by decide)], by simp only [numV, if_true]; rfl⟩
      · have hne : ((c.toNat : Int) == 48) = false := by
          apply beq_eq_false_iff_ne.2
          intro e
          apply h48
          apply UInt8.toNat_inj.1
          show c.toNat = 48
          omega
        rw [hne]
        simp only [numV]
        rw [if_neg h48]
        exact go'
end Go.Proofs.YtofnhgpiipmegaaDoor.PV
namespace Go.Proofs.YtofnhgpiipmegaaDoor.PV
open Go.RowKit Go.Proofs.YtofnhgpiipmegaaDoorW.PrintWords Go.Proofs.YtofnhgpiipmegaaDoorW.PrintLast Go.Proofs.YtofnhgpiipmegaaDoorW.PrintMore
set_option linter.unusedVariables false
set_option linter.unusedSimpArgs false
theorem cutAt_self (c : UInt8) : ∀ a : List UInt8, c ∉ a → cutAt c a = [a]
  | [], _ => rfl
  | x :: r, h => by
    rw [cutAt_cons, if_neg (fun e => h (by simp [e])), cutAt_self c r (fun e => h (by simp [e]))]
theorem cutAt_app (c : UInt8) : ∀ a r : List UInt8, c ∉ a → cutAt c (a ++ c :: r) = a :: cutAt c r
  | [], r, _ => by rw [List.nil_append, cutAt_cons, if_pos rfl]
  | x :: a, r, h => by
    rw [List.cons_append, cutAt_cons, if_neg (fun e => h (by simp [e])), cutAt_app c a r (fun e => h (by simp [e]))]
theorem extract_list (s : ByteArray) (a b : Nat) : s.extract a b = ⟨((s.data.toList.drop a).take (b - a)).toArray⟩ := Lib.extract_eq s a b
theorem parts_split (s : ByteArray) (fr i : Nat) (h : fr ≤ i) : s.data.toList.drop fr = (s.data.toList.drop fr).take (i - fr) ++ s.data.toList.drop i := by
  conv => lhs; rw [← List.take_append_drop (i - fr) (s.data.toList.drop fr)]
  rw [List.drop_drop, show fr + (i - fr) = i from by omega]
theorem parts_more (s : ByteArray) (fr i : Nat) (h : fr ≤ i) (ch : UInt8) (r : List UInt8) (hc : s.data.toList.drop i = ch :: r) : (s.data.toList.drop fr).take (i + 1 - fr) = (s.data.toList.drop fr).take (i - fr) ++ [ch] := by
  rw [show i + 1 - fr = (i - fr) + 1 from by omega, List.take_add_one, List.getElem?_drop, show fr + (i - fr) = i from by omega]
  have : s.data.toList[i]? = some ch := by
    have := congrArg (fun l => l[0]?) hc
    simpa using this
  rw [this]; rfl
theorem parts_end (s : ByteArray) (hs : s.size ≤ 140737488351232) (c : UInt8) (k fr : Nat) (out : List ByteArray) : turnoutref01_parts.l0 (k + 2) s c.toNat out fr ((s.size + 1 : Nat) : Int) = some out := by
  simp only [turnoutref01_parts.l0]
  rw [if_neg (by omega)]
  simp only [turnoutref01_parts.j1]
  rw [if_neg (by decide)]
theorem parts_full (s : ByteArray) (c : UInt8) (k fr i : Nat) (out : List ByteArray) (ho : out.length = 18) (hi : i ≤ s.size) : turnoutref01_parts.l0 (k + 2) s c.toNat out fr i = some out := by
  simp only [turnoutref01_parts.l0]
  rw [if_pos (by omega)]
  simp only [turnoutref01_parts.j1]
  rw [if_neg (by rw [ho]; decide)]
theorem parts_in (s : ByteArray) (c : UInt8) (k fr i : Nat) (out : List ByteArray) (ho : out.length < 18) (hi : i ≤ s.size) : turnoutref01_parts.l0 (k + 2) s c.toNat out fr i = turnoutref01_parts.j1 (k + 1) s c.toNat out fr i true := by
  simp only [turnoutref01_parts.l0]
  rw [if_pos (by omega), decide_eq_true (by omega)]
theorem parts_go (s : ByteArray) (hs : s.size ≤ 140737488351232) (c : UInt8) : ∀ (d i fr k : Nat) (out : List ByteArray), i + d = s.size → fr ≤ i → c ∉ (s.data.toList.drop fr).take (i - fr) → out.length ≤ 18 → 2 * d + 10 ≤ k →
    turnoutref01_parts.l0 k s c.toNat out fr i = some ((out ++ (cutAt c (s.data.toList.drop fr)).map fun l => (⟨l.toArray⟩ : ByteArray)).take 18) := by
  intro d
  induction d with
  | zero =>
    intro i fr k out hd hfr hno ho hk
    have hl := data_length s
    obtain ⟨k, rfl⟩ : ∃ j, k = j + 4 := ⟨k - 4, by omega⟩
    by_cases h18 : out.length < 18
    · rw [parts_in s c (k + 2) fr i out h18 (by omega)]
      obtain rfl : i = s.size := by omega
      simp only [turnoutref01_parts.j1]
      rw [if_pos trivial, if_pos trivial, if_pos (by omega), if_pos (by omega), if_pos (by omega), if_pos (by omega)]
      have e1 : wrap64 ((s.size : Int) + 1) = ((s.size + 1 : Nat) : Int) := by unfold wrap64; omega
      rw [e1, parts_end s hs c k (s.size + 1) _]
      have esp := parts_split s fr s.size hfr
      rw [List.drop_eq_nil_of_le (show s.data.toList.length ≤ s.size by omega), List.append_nil] at esp
      have hc : cutAt c (s.data.toList.drop fr) = [s.data.toList.drop fr] := cutAt_self c _ (by rw [esp]; exact hno)
      have ex : s.extract ((fr : Nat) : Int).toNat ((s.size : Nat) : Int).toNat = ⟨(s.data.toList.drop fr).toArray⟩ := by
        rw [Int.toNat_natCast, Int.toNat_natCast, extract_list, ← esp]
      rw [hc, ex, List.take_of_length_le (by rw [List.length_append]; simp; omega)]
      rfl
    · rw [parts_full s c (k + 2) fr i out (by omega) (by omega), List.take_append_of_le_length (by omega), List.take_of_length_le (by omega)]
  | succ d ih =>
    intro i fr k out hd hfr hno ho hk
    have hl := data_length s
    obtain ⟨k, rfl⟩ : ∃ j, k = j + 2 := ⟨k - 2, by omega⟩
    by_cases h18 : out.length < 18
    · rw [parts_in s c k fr i out h18 (by omega)]
      obtain ⟨ch, r, hc1, hc2, hbt⟩ := bt_drop s i (by omega)
      have e1 : wrap64 ((i : Int) + 1) = ((i + 1 : Nat) : Int) := by unfold wrap64; omega
      simp only [turnoutref01_parts.j1]
      rw [if_pos trivial, if_neg (by omega), if_pos (by omega), if_pos (by omega), hbt]
      by_cases he : ch = c
      · subst he
        rw [if_pos rfl, if_pos (by omega), if_pos (by omega), if_pos (by omega), if_pos (by omega), e1]
        have ex : s.extract ((fr : Nat) : Int).toNat ((i : Nat) : Int).toNat = ⟨((s.data.toList.drop fr).take (i - fr)).toArray⟩ := by
          rw [Int.toNat_natCast, Int.toNat_natCast, extract_list]
        have hcut : cutAt ch (s.data.toList.drop fr) = (s.data.toList.drop fr).take (i - fr) :: cutAt ch (s.data.toList.drop (i + 1)) := by
          conv => lhs; rw [parts_split s fr i hfr, hc1]
          rw [cutAt_app ch _ _ hno, hc2]
        rw [ex, ih (i + 1) (i + 1) k _ (by omega) (Nat.le_refl _) (by simp) (by rw [List.length_append, List.length_singleton]; omega) (by omega), hcut]
        simp
      · have hne : ¬ ((ch.toNat : Int) = (c.toNat : Int)) := fun h => he (UInt8.toNat_inj.1 (by omega))
        rw [if_neg hne, e1]
        refine ih (i + 1) fr k out (by omega) (by omega) ?_ ho (by omega)
        rw [parts_more s fr i hfr ch r hc1]
        simp only [List.mem_append, List.mem_singleton, not_or]
        exact ⟨hno, fun h => he h.symm⟩
    · rw [parts_full s c k fr i out (by omega) (by omega), List.take_append_of_le_length (by omega), List.take_of_length_le (by omega)]
theorem ref_parts (s : ByteArray) (hs : s.size ≤ 140737488351232) (c : UInt8) (k : Nat) (hk : 2 * s.size + 10 ≤ k) : turnoutref01_parts.f k s c.toNat = some ((piecesB c s).take 18) := by
  have := parts_go s hs c s.size 0 0 k [] (by omega) (Nat.le_refl _) (by simp) (by simp) hk
  rw [List.nil_append, List.drop_zero] at this
  exact this
def decV (p : ByteArray) : Option Nat :=
  match numV 10 p.data.toList with
  | none => none
  | some v => if v ≤ 255 then some v else none
def hexV (p : ByteArray) : Option Nat :=
  match p.data.toList with
  | [x, y] => if wN x < 16 ∧ wN y < 16 then some (16 * wN x + wN y) else none
  | _ => none
def allM (g : ByteArray → Option Nat) : List ByteArray → Option (List Int)
  | [] => some []
  | p :: ps => match g p with
    | none => none
    | some v => match allM g ps with
      | none => none
      | some l => some ((v : Int) :: l)
theorem allM_len (g : ByteArray → Option Nat) : ∀ (ps : List ByteArray) (l : List Int), allM g ps = some l → l.length = ps.length
  | [], l, h => by simp [allM] at h; subst h; rfl
  | p :: ps, l, h => by
    simp only [allM] at h
    cases hg : g p with
    | none => rw [hg] at h; cases h
    | some v =>
      rw [hg] at h
      cases hm : allM g ps with
      | none => rw [hm] at h; cases h
      | some l' => rw [hm] at h; cases h; simp [allM_len g ps l' hm]
theorem numT_bd (b : Nat) : ∀ (l : List UInt8) (v w : Nat), numT b l v = some w → v * b ^ l.length ≤ w ∧ w < (v + 1) * b ^ l.length
  | [], v, w, h => by simp [numT] at h; subst h; simp
  | c :: r, v, w, h => by
    simp only [numT] at h
    split at h
    · rename_i hc
      obtain ⟨h1, h2⟩ := numT_bd b r _ w h
      rw [List.length_cons, Nat.pow_succ, Nat.mul_comm (b ^ r.length) b, ← Nat.mul_assoc, ← Nat.mul_assoc]
      constructor
      · exact Nat.le_trans (Nat.mul_le_mul_right _ (Nat.le_add_right _ _)) h1
      · refine Nat.lt_of_lt_of_le h2 (Nat.mul_le_mul_right _ ?_)
        rw [Nat.succ_mul]; omega
    · cases h
theorem wN_zero : ∀ c : UInt8, wN c = 0 → c = 48 := by
  have : ∀ n < 256, wN (UInt8.ofNat n) = 0 → UInt8.ofNat n = 48 := by decide +kernel
  intro c h
  have e : UInt8.ofNat c.toNat = c := by simp
  have := this c.toNat (UInt8.toNat_lt c)
  rw [e] at this
  exact this h
theorem numV_short (l : List UInt8) (v : Nat) (h : numV 10 l = some v) (h3 : l.length ≤ 3) : v < 1000 := by
  cases l with
  | nil => cases h
  | cons c r =>
    have hh : numT 10 (c :: r) 0 = some v := by
      cases r with
      | nil => exact h
      | cons d r =>
        simp only [numV] at h
        split at h
        · cases h
        · exact h
    have := (numT_bd 10 _ _ _ hh).2
    rw [Nat.zero_add, Nat.one_mul] at this
    exact Nat.lt_of_lt_of_le this (Nat.pow_le_pow_right (by decide) h3)
theorem numV_long (l : List UInt8) (v : Nat) (h : numV 10 l = some v) (h3 : 4 ≤ l.length) : 1000 ≤ v := by
  match l, h3 with
  | c :: d :: r, h3 =>
    simp only [numV] at h
    split at h
    · cases h
    · rename_i h48
      simp only [numT] at h
      split at h
      · rename_i hc
        have hc0 : wN c ≠ 0 := fun e => h48 (wN_zero c e)
        split at h
        · have h1 := (numT_bd 10 _ _ _ h).1
          have hr : 2 ≤ r.length := by simp at h3; omega
          have hp : 10 ^ 2 ≤ 10 ^ r.length := Nat.pow_le_pow_right (by decide) hr
          have h2 : 10 * 10 ^ r.length ≤ v := Nat.le_trans (Nat.mul_le_mul_right _ (by omega)) h1
          omega
        · cases h
      · cases h
theorem pn_dec (p : ByteArray) (hp : p.size ≤ 140737488351232) : pieceNum 10 p = Option.map (fun v : Nat => ((256 * 0 + v : Nat) : Int)) (decV p) := by
  have hl := data_length p
  have e := numAll_eq 10 (by decide) (by decide) p.data.toList
  unfold decV
  cases hv : numV 10 p.data.toList with
  | none =>
    rw [hv] at e
    rw [pn10 e, if_pos (.inl rfl)]; rfl
  | some v =>
    rw [hv] at e
    rw [pn10 e]
    dsimp only
    by_cases h3 : p.size ≤ 3
    · have hb := numV_short _ v hv (by omega)
      have e : pL (v % 2 ^ 128) = (v : Int) := by unfold pL; rw [two128, two64]; omega
      rw [e]
      by_cases h255 : v ≤ 255
      · rw [if_neg (by simp; omega), if_pos h255]; simp
      · rw [if_pos (by simp; omega), if_neg h255]; rfl
    · have hb := numV_long _ v hv (by omega)
      have h255 : ¬ v ≤ 255 := by omega
      rw [if_pos (Or.inr (Or.inl (by omega))), if_neg h255]; rfl
theorem pn_hex (p : ByteArray) (hp : p.size ≤ 140737488351232) : pieceNum 16 p = Option.map (fun v : Nat => ((256 * 1 + v : Nat) : Int)) (hexV p) := by
  have hl := data_length p
  by_cases h2 : p.size = 2
  · match hd : p.data.toList, hl with
    | [x, y], _ =>
      have hq : ((⟨#[49]⟩ : ByteArray) ++ p).data.toList = [49, x, y] := by
        rw [ByteArray.data_append]; simp [hd]
      have e : numAll ((16 : Nat) : Int) ((⟨#[49]⟩ : ByteArray) ++ p).data.toList = resN (numV 16 [49, x, y]) := by rw [hq, numAll_eq 16 (by decide) (by decide)]
      have w49 : wN 49 = 1 := by decide
      simp only [hexV, hd]
      by_cases hx : wN x < 16
      · by_cases hy : wN y < 16
        · have hn : numV 16 [49, x, y] = some ((1 * 16 + wN x) * 16 + wN y) := by
            simp only [numV, numT, w49]
            rw [if_neg (by decide), if_pos (by decide), if_pos hx, if_pos hy]
          rw [hn] at e
          simp only [resN] at e
          rw [pn16 h2 e, if_neg (by decide), if_pos ⟨hx, hy⟩]
          have ee : pL (((1 * 16 + wN x) * 16 + wN y) % 2 ^ 128) = ((256 * 1 + (16 * wN x + wN y) : Nat) : Int) := by
            unfold pL; rw [two128, two64]; omega
          rw [ee]; rfl
        · have hn : numV 16 [49, x, y] = none := by
            simp only [numV, numT, w49]
            rw [if_neg (by decide), if_pos (by decide), if_pos hx, if_neg hy]
          rw [hn] at e
          rw [pn16 h2 e, if_pos rfl, if_neg (fun h => hy h.2)]; rfl
      · have hn : numV 16 [49, x, y] = none := by
          simp only [numV, numT, w49]
          rw [if_neg (by decide), if_pos (by decide), if_neg hx]
        rw [hn] at e
        rw [pn16 h2 e, if_pos rfl, if_neg (fun h => hx h.1)]; rfl
    | [], h => rw [hd] at hl; simp at hl; omega
    | [_], h => rw [hd] at hl; simp at hl; omega
    | _ :: _ :: _ :: _, h => rw [hd] at hl; simp at hl; omega
  · rw [pn16_no h2]
    match hd : p.data.toList with
    | [x, y] => rw [hd] at hl; exact absurd hl.symm h2
    | [] => simp [hexV, hd]
    | [_] => simp [hexV, hd]
    | _ :: _ :: _ :: _ => simp [hexV, hd]
/-- All pieces are numbers, and there are so many. -/
def okP (g : ByteArray → Option Nat) (m : Nat) (ps : List ByteArray) : Option (List Int) := if ps.length = m then allM g ps else none
theorem pFold_all (b : Int) (m : Nat) (g : ByteArray → Option Nat) (q : Nat) : ∀ (ps : List ByteArray) (acc : List Int), (∀ p ∈ ps, pieceNum b p = Option.map (fun v : Nat => ((256 * q + v : Nat) : Int)) (g p)) → (∀ p ∈ ps, ∀ v, g p = some v → v < 256) → acc.length ≤ m →
    pFold b m ps acc = if ps.length + acc.length ≤ m then (allM g ps).map (acc ++ ·) else none
  | [], acc, _, _, hm => by simp [pFold, allM, hm]
  | p :: ps, acc, h1, h2, hm => by
    simp only [pFold, allM]
    rw [h1 p List.mem_cons_self]
    cases hg : g p with
    | none => simp
    | some v =>
      have hv := h2 p List.mem_cons_self v hg
      simp only [Option.map_some]
      have ev : ((256 * q + v : Nat) : Int) % 256 = (v : Int) := by omega
      rw [ev]
      by_cases hl : acc.length = m
      · rw [if_pos (by omega), if_neg (by rw [List.length_cons]; omega)]
      · rw [if_neg (by omega), pFold_all b m g q ps (acc ++ [(v : Int)]) (fun p hp => h1 p (List.mem_cons_of_mem _ hp)) (fun p hp => h2 p (List.mem_cons_of_mem _ hp)) (by rw [List.length_append]; simp; omega)]
        have el : ps.length + (acc ++ [(v : Int)]).length = (p :: ps).length + acc.length := by simp; omega
        rw [el]
        split
        · cases allM g ps <;> simp
        · rfl
theorem decV_lt (p : ByteArray) (v : Nat) (h : decV p = some v) : v < 256 := by
  unfold decV at h
  split at h
  · cases h
  · split at h
    · cases h; omega
    · cases h
theorem hexV_lt (p : ByteArray) (v : Nat) (h : hexV p = some v) : v < 256 := by
  unfold hexV at h
  split at h
  · split at h
    · cases h; omega
    · cases h
  · cases h
theorem mem_piece_le {c : UInt8} {s x : ByteArray} (h : x ∈ piecesB c s) : x.size ≤ s.size := by
  obtain ⟨l, hl, rfl⟩ := List.mem_map.1 h
  have := cutAt_le c _ l hl
  rw [data_length] at this
  exact this
theorem own_pieces (c : UInt8) (s : ByteArray) (hs : s.size ≤ 140737488351232) (b : Int) (m : Nat) (hm : m ≤ 16) (g : ByteArray → Option Nat) (q : Nat) (hb : b = 10 ∨ b = 16) (h1 : ∀ p : ByteArray, p.size ≤ 140737488351232 → pieceNum b p = Option.map (fun v : Nat => ((256 * q + v : Nat) : Int)) (g p)) (h2 : ∀ p v, g p = some v → v < 256) :
    ∃ x y, value_pieces.f s ⟨#[c]⟩ b m = some (x, y) ∧ (match okP g m (piecesB c s) with | some l => y = true ∧ x = strOfNums l | none => y = false) := by
  have hf := pFold_all b m g q (piecesB c s) [] (fun p hp => h1 p (Nat.le_trans (mem_piece_le hp) hs)) (fun p _ => h2 p) (Nat.zero_le _)
  have e : value_pieces.f s ⟨#[c]⟩ b m = some (pRes c s b m) := by
    unfold value_pieces.f pRes
    simp only
    rw [if_pos ⟨hs, hb, by omega, by omega⟩]
    cases pFold b m (piecesB c s) [] <;> rfl
  refine ⟨_, _, e, ?_⟩
  simp only [pRes, okP]
  rw [hf]
  simp only [List.length_nil, Nat.add_zero]
  by_cases hl : (piecesB c s).length = m
  · rw [if_pos hl, if_pos (by omega)]
    cases ha : allM g (piecesB c s) with
    | none => rfl
    | some l =>
      have := allM_len g _ _ ha
      simp only [Option.map_some, List.nil_append]
      exact ⟨decide_eq_true (by omega), trivial⟩
  · rw [if_neg hl]
    by_cases hle : (piecesB c s).length ≤ m
    · rw [if_pos hle]
      cases ha : allM g (piecesB c s) with
      | none => rfl
      | some l =>
        have := allM_len g _ _ ha
        exact decide_eq_false (by simp; omega)
    · rw [if_neg hle]
end Go.Proofs.YtofnhgpiipmegaaDoor.PV
namespace Go.Proofs.YtofnhgpiipmegaaDoor.PV
open Go.RowKit Go.Proofs.YtofnhgpiipmegaaDoorW.PrintWords Go.Proofs.YtofnhgpiipmegaaDoorW.PrintLast Go.Proofs.YtofnhgpiipmegaaDoorW.PrintMore
set_option linter.unusedVariables false
set_option linter.unusedSimpArgs false
theorem rdOf_drop (l : List ByteArray) (i : Nat) (p : ByteArray) (r : List ByteArray) (h : l.drop i = p :: r) : rdOf ByteArray.empty l i = p ∧ i < l.length := by
  have hi : i < l.length := by
    rcases Nat.lt_or_ge i l.length with h' | h'
    · exact h'
    · rw [List.drop_eq_nil_of_le h'] at h; cases h
  refine ⟨?_, hi⟩
  rw [List.drop_eq_getElem_cons hi] at h
  have := (List.cons.inj h).1
  simp [rdOf, List.getD, hi, this]
theorem cmp255 (v : Nat) (hv : v < 2 ^ 128) : turnoutref01_Compare.f (pH v) (pL v) 0 255 = some (if v ≤ 255 then (if v = 255 then 0 else -1) else 1) := by
  unfold turnoutref01_Compare.f
  have e : layL 0 255 = topL 128 255 := layL_top (by decide) (by decide)
  rw [lay_top hv, e, cmpL_top, Nat.mod_eq_of_lt hv, Nat.mod_eq_of_lt (by decide)]
  unfold cmpN
  congr 1
  split <;> split <;> (try split) <;> omega
theorem dots_step (l : List ByteArray) (i k : Nat) (acc : List Int) (p : ByteArray) (hi : i < l.length) (hl : l.length = 4) (e1 : rdOf ByteArray.empty l i = p) (ha : acc.length ≤ 4) (hs : p.size ≤ 140737488351232) (hk : p.size + 600 ≤ k) :
    turnoutref01_bytes.l0 (k + 1) acc l i = match decV p with | none => some (⟨#[]⟩, false) | some v => turnoutref01_bytes.l0 k (acc ++ [(v : Int)]) l ((i + 1 : Nat) : Int) := by
  obtain ⟨⟨x, y, f, ok⟩, h1, h2⟩ := ref_number p hs 10 (by decide) k (by omega)
  have n1 : (i : Int) < (l.length : Int) := by omega
  have n2 : (0 : Int) ≤ (i : Int) := by omega
  have n3 : acc.length < 140737488355328 := by omega
  have n4 : (i : Int) < 4 := by omega
  have e7 : wrap64 ((i : Int) + 1) = ((i + 1 : Nat) : Int) := by unfold wrap64; omega
  have h1' : turnoutref01_number.f k p 10 = some (x, y, f, ok) := h1
  simp only [turnoutref01_bytes.l0]
  rw [if_pos n4, if_pos n2, if_pos n1, e1, h1', Option.bind_some, e7]
  unfold decV
  cases hv : numV 10 p.data.toList with
  | none =>
    rw [hv] at h2
    obtain ⟨rfl, rfl, rfl, rfl⟩ : x = 0 ∧ y = 0 ∧ f = false ∧ ok = false := by simpa [RefRes] using h2
    dsimp only
    rw [if_neg (by decide)]
  | some v =>
    rw [hv] at h2
    obtain ⟨h3, h4⟩ := h2
    simp only [Prod.mk.injEq] at h3
    obtain ⟨hf, rfl⟩ := h3
    dsimp only at h4 ⊢
    rw [if_pos rfl]
    by_cases h255 : v ≤ 255
    · have h128 : v < 2 ^ 128 := Nat.lt_of_le_of_lt h255 (by decide)
      obtain ⟨rfl, rfl⟩ := h4 h128
      have e6 : pL v % 256 = (v : Int) := by unfold pL; rw [two64]; omega
      have e5 : ¬ ((if v ≤ 255 then (if v = 255 then (0 : Int) else -1) else 1) > 0) := by rw [if_pos h255]; split <;> omega
      rw [if_pos (by rw [hf]; exact decide_eq_true h128), cmp255 v h128, Option.bind_some, if_neg e5, if_pos n3, if_pos h255, e6]
    · rw [if_neg h255]
      dsimp only
      by_cases h128 : v < 2 ^ 128
      · obtain ⟨rfl, rfl⟩ := h4 h128
        have e5 : (if v ≤ 255 then (if v = 255 then (0 : Int) else -1) else 1) > 0 := by rw [if_neg h255]; decide
        rw [if_pos (by rw [hf]; exact decide_eq_true h128), cmp255 v h128, Option.bind_some, if_pos e5]
      · rw [if_neg (by rw [hf, decide_eq_false h128]; decide)]
theorem ref_dots (l : List ByteArray) (hl : l.length = 4) (hsz : ∀ p ∈ l, p.size ≤ 140737488351232) (K : Nat) (hK : ∀ p ∈ l, p.size + 600 ≤ K) : ∀ (d i k : Nat) (acc : List Int), i + d = 4 → acc.length ≤ i → K + d + 1 ≤ k →
    turnoutref01_bytes.l0 k acc l i = some (match allM decV (l.drop i) with | none => (⟨#[]⟩, false) | some x => (strOfNums (acc ++ x), true)) := by
  intro d
  induction d with
  | zero =>
    intro i k acc hd ha hk
    obtain rfl : i = 4 := by omega
    obtain ⟨k, rfl⟩ : ∃ j, k = j + 1 := ⟨k - 1, by omega⟩
    simp only [turnoutref01_bytes.l0]
    rw [if_neg (by decide), List.drop_eq_nil_of_le (by omega)]
    simp [allM]
  | succ d ih =>
    intro i k acc hd ha hk
    have hi : i < l.length := by omega
    have hdr := List.drop_eq_getElem_cons hi
    obtain ⟨p, r, hpr⟩ : ∃ p r, l.drop i = p :: r := ⟨_, _, hdr⟩
    have hp : p ∈ l := List.drop_subset i l (by rw [hpr]; exact List.mem_cons_self)
    have hKp := hK p hp
    obtain ⟨k, rfl⟩ : ∃ j, k = j + 1 := ⟨k - 1, by omega⟩
    obtain ⟨e1, e2⟩ := rdOf_drop l i p r hpr
    have hr : l.drop (i + 1) = r := by rw [← List.drop_drop, hpr]; rfl
    rw [dots_step l i k acc p hi hl e1 (by omega) (hsz p hp) (by omega), hpr]
    simp only [allM]
    cases decV p with
    | none => rfl
    | some v =>
      dsimp only
      rw [ih (i + 1) k _ (by omega) (by rw [List.length_append, List.length_singleton]; omega) (by omega), hr]
      cases allM decV r with
      | none => rfl
      | some z => simp
theorem hexV_two {p : ByteArray} {x y : UInt8} (hp : p.data.toList = [x, y]) : hexV p = if wN x < 16 ∧ wN y < 16 then some (16 * wN x + wN y) else none := by simp only [hexV, hp]
theorem hexV_no {p : ByteArray} (hp : p.size ≠ 2) : hexV p = none := by
  have hl := data_length p
  unfold hexV
  split
  · rename_i h; rw [h] at hl; exact absurd hl.symm hp
  · rfl
set_option maxHeartbeats 1000000 in
theorem hex_step (l : List ByteArray) (i k : Nat) (acc : List Int) (p : ByteArray) (hi : i < l.length) (hl : l.length ≤ 16) (e1 : rdOf ByteArray.empty l i = p) (ha : acc.length ≤ 16) (hk : 40 ≤ k) :
    turnoutref01_bytes.l1 (k + 2) acc l i = match hexV p with | none => some (⟨#[]⟩, false) | some v => turnoutref01_bytes.l1 k (acc ++ [(v : Int)]) l ((i + 1 : Nat) : Int) := by
  have hlp := data_length p
  have bad : turnoutref01_bytes.j4 (k + 1) acc l i true = some (⟨#[]⟩, false) := by simp only [turnoutref01_bytes.j4]; rw [if_pos trivial]
  have n1 : (i : Int) < (l.length : Int) := by omega
  have n2 : (0 : Int) ≤ (i : Int) := by omega
  have n3 : acc.length < 140737488355328 := by omega
  by_cases h2 : p.size = 2
  · obtain ⟨x, y, hp⟩ : ∃ x y, p.data.toList = [x, y] := by
      match hd : p.data.toList, (show p.data.toList.length = 2 by omega) with
      | [x, y], _ => exact ⟨x, y, rfl⟩
    have b0 : bt p 0 = (x.toNat : Int) := by
      obtain ⟨c, r, q1, q2, q3⟩ := bt_drop p 0 (by omega)
      rw [List.drop_zero, hp] at q1
      rw [(List.cons.inj q1).1]; exact q3
    have b1 : bt p 1 = (y.toNat : Int) := by
      obtain ⟨c, r, q1, q2, q3⟩ := bt_drop p 1 (by omega)
      rw [hp] at q1
      rw [show y = c from (List.cons.inj q1).1]; exact q3
    have s2 : (p.size : Int) = 2 := by omega
    have w0 : ∀ k, 20 ≤ k → turnoutref01_worth.f k (bt p 0) 16 = some (if wN x < 16 then (wN x : Int) else -1) := fun k h => by rw [b0]; exact ref_worth 16 k (by decide) x h
    have w1 : ∀ k, 20 ≤ k → turnoutref01_worth.f k (bt p 1) 16 = some (if wN y < 16 then (wN y : Int) else -1) := fun k h => by rw [b1]; exact ref_worth 16 k (by decide) y h
    rw [hexV_two hp]
    clear hp b0 b1 hlp h2
    simp only [turnoutref01_bytes.l1]
    rw [if_pos n1, if_pos n2, e1, s2, if_pos rfl, if_pos (by decide), w0 _ (by omega), Option.bind_some]
    by_cases hx : wN x < 16
    · rw [if_pos hx, if_neg (by omega), if_pos (by decide), w1 _ (by omega), Option.bind_some]
      by_cases hy : wN y < 16
      · rw [if_pos hy, decide_eq_false (by omega), if_pos ⟨hx, hy⟩]
        simp only [turnoutref01_bytes.j4]
        rw [if_neg (by decide), if_pos n2, if_pos n1, e1, s2, if_pos (by decide), w0 _ (by omega), Option.bind_some, if_pos (by decide), w1 _ (by omega), Option.bind_some, if_pos hx, if_pos hy, if_pos n3]
        have e6 : wrap64 (wrap64 (16 * (wN x : Int)) + (wN y : Int)) % 256 = ((16 * wN x + wN y : Nat) : Int) := by
          rw [wrap64_small (x := 16 * (wN x : Int)) (by omega) (by omega), wrap64_small (by omega) (by omega)]; omega
        have e7 : wrap64 ((i : Int) + 1) = ((i + 1 : Nat) : Int) := by unfold wrap64; omega
        rw [e6, e7]
      · rw [if_neg hy, if_neg (fun h => hy h.2)]
        exact bad
    · rw [if_neg hx, if_pos (by decide), if_neg (fun h => hx h.1)]
      exact bad
  · rw [hexV_no h2]
    simp only [turnoutref01_bytes.l1]
    rw [if_pos n1, if_pos n2, e1, if_neg (by omega)]
    exact bad
theorem ref_hex (l : List ByteArray) (hl : l.length ≤ 16) : ∀ (d i k : Nat) (acc : List Int), i + d = l.length → acc.length ≤ i → 2 * d + 60 ≤ k →
    turnoutref01_bytes.l1 k acc l i = some (match allM hexV (l.drop i) with | none => (⟨#[]⟩, false) | some x => (strOfNums (acc ++ x), true)) := by
  intro d
  induction d with
  | zero =>
    intro i k acc hd ha hk
    obtain ⟨k, rfl⟩ : ∃ j, k = j + 1 := ⟨k - 1, by omega⟩
    simp only [turnoutref01_bytes.l1]
    rw [if_neg (by omega), List.drop_eq_nil_of_le (by omega)]
    simp [allM]
  | succ d ih =>
    intro i k acc hd ha hk
    have hi : i < l.length := by omega
    have hdr := List.drop_eq_getElem_cons hi
    obtain ⟨p, r, hpr⟩ : ∃ p r, l.drop i = p :: r := ⟨_, _, hdr⟩
    obtain ⟨k, rfl⟩ : ∃ j, k = j + 2 := ⟨k - 2, by omega⟩
    obtain ⟨e1, e2⟩ := rdOf_drop l i p r hpr
    have hr : l.drop (i + 1) = r := by rw [← List.drop_drop, hpr]; rfl
    rw [hex_step l i k acc p hi hl e1 (by omega) (by omega), hpr]
    simp only [allM]
    cases hexV p with
    | none => rfl
    | some v =>
      dsimp only
      rw [ih (i + 1) k _ (by omega) (by rw [List.length_append, List.length_singleton]; omega) (by omega), hr]
      cases allM hexV r with
      | none => rfl
      | some z => simp
end Go.Proofs.YtofnhgpiipmegaaDoor.PV
namespace Go.Proofs.YtofnhgpiipmegaaDoor.PV
open Go.RowKit Go.Proofs.YtofnhgpiipmegaaDoorW.PrintWords Go.Proofs.YtofnhgpiipmegaaDoorW.PrintLast Go.Proofs.YtofnhgpiipmegaaDoorW.PrintMore
set_option linter.unusedVariables false
set_option linter.unusedSimpArgs false
theorem tdiv_nat (n : Nat) (h : n ≤ 1000) : wrap64 (Int.tdiv (n : Int) 8) = ((n / 8 : Nat) : Int) := by
  rw [show (8 : Int) = ((8 : Nat) : Int) from rfl, ← Int.ofNat_tdiv, wrap64_small (by omega) (by omega)]
theorem tmod_nat (n : Nat) : Int.tmod (n : Int) 8 = ((n % 8 : Nat) : Int) := by
  rw [show (8 : Int) = ((8 : Nat) : Int) from rfl, ← Int.ofNat_tmod]
theorem refHas5 (n k : Nat) (n1 : 1 ≤ n) (n2 : n ≤ 128) : turnoutref01_Has.f (k + 1) n 5 = some (decide (n % 8 = 0 ∧ 9 ≤ n)) := by
  unfold turnoutref01_Has.f
  rw [if_neg (by decide), if_neg (by decide)]
  simp only [turnoutref01_Has.j0]
  rw [if_neg (by decide), if_neg (by decide), if_pos trivial, width_yes (by omega), Option.bind_some, if_pos rfl, tmod_nat]
  by_cases h : n % 8 = 0
  · rw [if_pos (by omega)]; congr 1; rw [Bool.eq_iff_iff]; simp only [decide_eq_true_eq]; omega
  · rw [if_neg (by omega), decide_eq_false (fun q => h q.1)]
theorem ownHas5 (n : Nat) (n1 : 1 ≤ n) (n2 : n ≤ 128) : value_has.f n 5 = some (decide (n % 8 = 0 ∧ 9 ≤ n)) := by
  unfold value_has.f
  rw [if_neg (by decide), if_pos rfl, isWidth_yes (by omega), Option.bind_some, if_pos rfl, tmod_nat]
  by_cases h : 16 ≤ n
  · rw [if_pos (by omega)]; congr 1; rw [Bool.eq_iff_iff]; simp only [decide_eq_true_eq, beq_iff_eq]; omega
  · rw [if_neg (by omega), decide_eq_false (by omega)]
/-- The bytes that a text of Dots or Colons says. -/
def bytesR (s : ByteArray) (n : Nat) : Option (List Int) :=
  if n = 32 ∧ (piecesB 46 s).length = 4 then allM decV (piecesB 46 s)
  else if n % 8 = 0 ∧ 9 ≤ n then okP hexV (n / 8) (piecesB 58 s) else none
theorem take18 {l : List ByteArray} {m : Nat} (h : m < 18) : ((l.take 18).length = m ↔ l.length = m) ∧ (l.length = m → l.take 18 = l) := by
  refine ⟨?_, fun h' => List.take_of_length_le (by omega)⟩
  rw [List.length_take]; omega
theorem ref_bytes_colons (s : ByteArray) (hs : s.size ≤ 140737488351232) (n : Nat) (n1 : 1 ≤ n) (n2 : n ≤ 128) (k : Nat) (hk : 2 * s.size + 1000 ≤ k) (l0 : List ByteArray) :
    turnoutref01_bytes.j0 k s n [] l0 false = some (match (if n % 8 = 0 ∧ 9 ≤ n then okP hexV (n / 8) (piecesB 58 s) else none) with | none => (⟨#[]⟩, false) | some l => (strOfNums l, true)) := by
  obtain ⟨k, rfl⟩ : ∃ j, k = j + 2 := ⟨k - 2, by omega⟩
  have hp := ref_parts s hs 58 (k + 1) (by omega)
  have hp' : turnoutref01_parts.f (k + 1) s 58 = some ((piecesB 58 s).take 18) := hp
  have bad : ∀ l, turnoutref01_bytes.j2 (k + 1) [] l true = some (⟨#[]⟩, false) := fun l => by simp only [turnoutref01_bytes.j2]; rw [if_pos trivial]
  simp only [turnoutref01_bytes.j0]
  rw [if_neg (by decide), hp', Option.bind_some, refHas5 n k n1 n2, Option.bind_some, tdiv_nat n (by omega)]
  by_cases h5 : n % 8 = 0 ∧ 9 ≤ n
  · rw [if_pos (decide_eq_true h5), if_pos h5]
    obtain ⟨t1, t2⟩ := take18 (l := piecesB 58 s) (m := n / 8) (by omega)
    unfold okP
    by_cases hl : (piecesB 58 s).length = n / 8
    · rw [if_pos hl, t2 hl]
      have e2 : (((piecesB 58 s).length : Int) != ((n / 8 : Nat) : Int)) = false := by rw [hl]; simp
      rw [e2]
      simp only [turnoutref01_bytes.j2]
      rw [if_neg (by decide)]
      have := ref_hex (piecesB 58 s) (by omega) (piecesB 58 s).length 0 k [] (by omega) (by simp) (by omega)
      rw [List.drop_zero] at this
      simp only [List.nil_append] at this
      exact this
    · have e2 : ((((piecesB 58 s).take 18).length : Int) != ((n / 8 : Nat) : Int)) = true := by
        rw [bne_iff_ne]; intro h; exact hl (t1.1 (by omega))
      rw [e2, bad, if_neg hl]
  · rw [if_neg (by simp [h5]), if_neg h5, bad]
theorem ref_bytes (s : ByteArray) (hs : s.size ≤ 140737488351232) (n : Nat) (n1 : 1 ≤ n) (n2 : n ≤ 128) (k : Nat) (hk : 2 * s.size + 2000 ≤ k) :
    turnoutref01_bytes.f k s n = some (match bytesR s n with | none => (⟨#[]⟩, false) | some l => (strOfNums l, true)) := by
  have hp := ref_parts s hs 46 k (by omega)
  have hp' : turnoutref01_parts.f k s 46 = some ((piecesB 46 s).take 18) := hp
  obtain ⟨t1, t2⟩ := take18 (l := piecesB 46 s) (m := 4) (by decide)
  unfold turnoutref01_bytes.f bytesR
  rw [hp', Option.bind_some]
  by_cases h4 : (piecesB 46 s).length = 4
  · rw [if_pos (by rw [t1.2 h4]; rfl), t2 h4]
    by_cases h32 : n = 32
    · subst h32
      rw [if_pos ⟨rfl, h4⟩]
      obtain ⟨k, rfl⟩ : ∃ j, k = j + 1 := ⟨k - 1, by omega⟩
      have := ref_dots (piecesB 46 s) h4 (fun p hp => Nat.le_trans (mem_piece_le hp) hs) (s.size + 600) (fun p hp => by have := mem_piece_le hp; omega) 4 0 k [] rfl (by simp) (by omega)
      rw [List.drop_zero] at this
      simp only [List.nil_append] at this
      have e : ((((32 : Nat) : Int)) == 32) = true := rfl
      rw [e]
      simp only [turnoutref01_bytes.j0]
      rw [if_pos trivial]
      exact this
    · have e : ((n : Int) == 32) = false := beq_eq_false_iff_ne.2 (by omega)
      rw [e, if_neg (fun h => h32 h.1)]
      exact ref_bytes_colons s hs n n1 n2 k (by omega) _
  · have e : ¬ ((((piecesB 46 s).take 18).length : Int) = 4) := fun h => h4 (t1.1 (by omega))
    rw [if_neg e, if_neg (fun h => h4 h.2)]
    exact ref_bytes_colons s hs n n1 n2 k (by omega) _
def beV : List UInt8 → Nat → Nat
  | [], v => v
  | c :: r, v => beV r (v * 256 + c.toNat)
def FromR (b : ByteArray) (n : Nat) : Int × Int × Int :=
  if b.size = (n + 7) / 8 then (if beV b.data.toList 0 < 2 ^ n then (pH (beV b.data.toList 0), pL (beV b.data.toList 0), 0) else (0, 0, 11)) else (0, 0, 12)
theorem left8 (v : Nat) (hv : v < 2 ^ 120) : value_left.f (pH v) (pL v) 8 = some (pH (v * 256), pL (v * 256)) := by
  have hA : v < 2 ^ 128 := Nat.lt_of_lt_of_le hv (Nat.pow_le_pow_right (by decide) (by decide))
  have h := left_f (pH v) (pL v) (pH_in hA) (pL_in v) 8 (by decide)
  have e : (v <<< 8) % 2 ^ 128 = v * 256 := by
    rw [Nat.shiftLeft_eq, show (2 : Nat) ^ 8 = 256 from rfl, Nat.mod_eq_of_lt]
    have : (2 : Nat) ^ 128 = 2 ^ 120 * 256 := by decide
    omega
  rw [V_p hA, e] at h
  exact h
theorem or_byte (v c : Nat) (hc : c < 256) : Go.bits .or .u64 (pL (v * 256)) (IntKind.u64.wrap (c : Int)) = pL (v * 256 + c) ∧ pH (v * 256) = pH (v * 256 + c) := by
  have e1 : IntKind.u64.wrap (c : Int) = ((c : Nat) : Int) := by rw [wrapU_eq]; omega
  have e2 : (v * 256) % 2 ^ 64 = 2 ^ 8 * (v % 2 ^ 56) := by rw [two64, show (2 : Nat) ^ 56 = 72057594037927936 from by decide, show (2 : Nat) ^ 8 = 256 from rfl]; omega
  constructor
  · unfold pL
    rw [e1, or_n _ _ (Nat.mod_lt _ (Nat.two_pow_pos 64)) (by rw [two64]; omega), e2, ← Nat.two_pow_add_eq_or_of_lt (by omega)]
    rw [two64, show (2 : Nat) ^ 56 = 72057594037927936 from by decide, show (2 : Nat) ^ 8 = 256 from rfl]
    omega
  · unfold pH; rw [two64]; omega
theorem own_From_go (b : ByteArray) (n : Nat) (n1 : 1 ≤ n) (n2 : n ≤ 128) (hb : b.size ≤ 16) : ∀ (d i v k : Nat), i + d = b.size → v < 2 ^ (8 * i) → d < k →
    value_From.l0 k b n (b.size : Int) i (pH v) (pL v) = some (if beV (b.data.toList.drop i) v < 2 ^ n then (pH (beV (b.data.toList.drop i) v), pL (beV (b.data.toList.drop i) v), 0) else (0, 0, 11)) := by
  intro d
  induction d with
  | zero =>
    intro i v k hd hv hk
    obtain ⟨k, rfl⟩ : ∃ j, k = j + 1 := ⟨k - 1, by omega⟩
    have hA : v < 2 ^ 128 := Nat.lt_of_lt_of_le hv (Nat.pow_le_pow_right (by decide) (by omega))
    simp only [value_From.l0]
    rw [if_neg (by omega), Fits_f _ _ (pH_in hA) (pL_in v) n n1 n2, V_p hA, Option.bind_some, List.drop_eq_nil_of_le (by rw [data_length]; omega)]
    rw [show beV [] v = v from rfl]
    by_cases h : v < 2 ^ n
    · rw [if_pos (decide_eq_true h), if_pos h]
    · rw [if_neg (by simp [h]), if_neg h]
  | succ d ih =>
    intro i v k hd hv hk
    obtain ⟨k, rfl⟩ : ∃ j, k = j + 1 := ⟨k - 1, by omega⟩
    obtain ⟨c, r, h1, h2, h3⟩ := bt_drop b i (by omega)
    have hv120 : v < 2 ^ 120 := Nat.lt_of_lt_of_le hv (Nat.pow_le_pow_right (by decide) (by omega))
    have hc := UInt8.toNat_lt c
    obtain ⟨o1, o2⟩ := or_byte v c.toNat hc
    simp only [value_From.l0]
    rw [if_pos (by omega), left8 v hv120, Option.bind_some, if_pos (by omega), if_pos (by omega), h3]
    dsimp only
    have e : wrap64 ((i : Int) + 1) = ((i + 1 : Nat) : Int) := by unfold wrap64; omega
    rw [o1, o2, e, ih (i + 1) (v * 256 + c.toNat) k (by omega) (by
      rw [show 8 * (i + 1) = 8 * i + 8 from by omega, Nat.pow_add, show (2 : Nat) ^ 8 = 256 from rfl]; omega) (by omega), h1, h2]
    rfl
theorem long_nat (n : Nat) (h : n ≤ 128) : wrap64 (Int.tdiv (wrap64 ((n : Int) + 7)) 8) = (((n + 7) / 8 : Nat) : Int) := by
  rw [wrap64_small (x := (n : Int) + 7) (by omega) (by omega), show ((n : Int) + 7) = ((n + 7 : Nat) : Int) from by omega, tdiv_nat _ (by omega)]
theorem own_From (b : ByteArray) (n : Nat) (n1 : 1 ≤ n) (n2 : n ≤ 128) (k : Nat) (hk : 20 ≤ k) : value_From.f k b n = some (FromR b n) := by
  unfold value_From.f FromR
  rw [isWidth_yes (by omega), Option.bind_some, if_pos rfl, long_nat n n2]
  by_cases hb : b.size = (n + 7) / 8
  · rw [if_pos (by omega), if_pos hb]
    have := own_From_go b n n1 n2 (by omega) b.size 0 0 k (by omega) (by simp) (by omega)
    rw [List.drop_zero] at this
    exact this
  · rw [if_neg (by omega), if_neg hb]
theorem ref_From_go (b : ByteArray) (n : Nat) (n1 : 1 ≤ n) (n2 : n ≤ 128) (hb : b.size ≤ 16) : ∀ (d i v k : Nat), i + d = b.size → v < 2 ^ (8 * i) → d + 300 < k →
    turnoutref01_From.l0 k b n i (pH v) (pL v) = some (if beV (b.data.toList.drop i) v < 2 ^ n then (pH (beV (b.data.toList.drop i) v), pL (beV (b.data.toList.drop i) v), 0) else (0, 0, 11)) := by
  intro d
  induction d with
  | zero =>
    intro i v k hd hv hk
    obtain ⟨k, rfl⟩ : ∃ j, k = j + 1 := ⟨k - 1, by omega⟩
    have hA : v < 2 ^ 128 := Nat.lt_of_lt_of_le hv (Nat.pow_le_pow_right (by decide) (by omega))
    simp only [turnoutref01_From.l0]
    rw [if_neg (by omega), refFits_f hA n n1 n2, Option.bind_some, List.drop_eq_nil_of_le (by rw [data_length]; omega)]
    rw [show beV [] v = v from rfl]
    by_cases h : v < 2 ^ n
    · rw [if_pos (decide_eq_true h), if_pos h]
    · rw [if_neg (by simp [h]), if_neg h]
  | succ d ih =>
    intro i v k hd hv hk
    obtain ⟨k, rfl⟩ : ∃ j, k = j + 1 := ⟨k - 1, by omega⟩
    obtain ⟨c, r, h1, h2, h3⟩ := bt_drop b i (by omega)
    have hA : v < 2 ^ 128 := Nat.lt_of_lt_of_le hv (Nat.pow_le_pow_right (by decide) (by omega))
    have hc := UInt8.toNat_lt c
    have hw : wrap64 (c.toNat : Int) = (c.toNat : Int) := by unfold wrap64; omega
    have hn : v * 256 + c.toNat < 2 ^ (8 * (i + 1)) := by
      rw [show 8 * (i + 1) = 8 * i + 8 from by omega, Nat.pow_add, show (2 : Nat) ^ 8 = 256 from rfl]; omega
    have hm : (v * 256 + c.toNat) % 2 ^ 128 = v * 256 + c.toNat := Nat.mod_eq_of_lt (Nat.lt_of_lt_of_le hn (Nat.pow_le_pow_right (by decide) (by omega)))
    have hmore := more_f v 256 c.toNat k hA (by decide) (by rw [two64]; omega) (by omega)
    rw [hm] at hmore
    have hmore' : turnoutref01_more.f k (pH v) (pL v) 256 (c.toNat : Int) = some (pH (v * 256 + c.toNat), pL (v * 256 + c.toNat)) := hmore
    simp only [turnoutref01_From.l0]
    rw [if_pos (by omega), if_pos (by omega), h3, hw, hmore', Option.bind_some]
    dsimp only
    have e : wrap64 ((i : Int) + 1) = ((i + 1 : Nat) : Int) := by unfold wrap64; omega
    rw [e, ih (i + 1) (v * 256 + c.toNat) k (by omega) hn (by omega), h1, h2]
    rfl
theorem ref_From (b : ByteArray) (n : Nat) (n1 : 1 ≤ n) (n2 : n ≤ 128) (k : Nat) (hk : 400 ≤ k) : turnoutref01_From.f k b n = some (FromR b n) := by
  unfold turnoutref01_From.f FromR turnoutref01_Long.f
  rw [width_yes (by omega), Option.bind_some, if_pos rfl, Option.bind_some, long_nat n n2]
  by_cases hb : b.size = (n + 7) / 8
  · rw [if_pos (by omega), if_pos hb]
    have := ref_From_go b n n1 n2 (by omega) b.size 0 0 k (by omega) (by simp) (by omega)
    rw [List.drop_zero] at this
    exact this
  · rw [if_neg (by omega), if_neg hb]
def baseOf (s : ByteArray) : Nat × ByteArray :=
  match s.data.toList with
  | x :: y :: _ => if x = 48 ∧ y = 120 then (16, s.extract 2 s.size) else if x = 48 ∧ y = 98 then (2, s.extract 2 s.size) else (10, s)
  | _ => (10, s)
def ParseR (s : ByteArray) (n : Nat) : Int × Int × Int :=
  match numV (baseOf s).1 (baseOf s).2.data.toList with
  | some v => if v < 2 ^ n then (pH v, pL v, 0) else (0, 0, 11)
  | none => match bytesR s n with
    | none => (0, 0, 12)
    | some l => FromR (strOfNums l) n
theorem ref_tail (s : ByteArray) (hs : s.size ≤ 140737488351232) (n : Nat) (n1 : 1 ≤ n) (n2 : n ≤ 128) (b : Nat) (t : ByteArray) (hb : b = 2 ∨ b = 10 ∨ b = 16) (ht : t.size ≤ s.size) (k : Nat) (hk : 2 * s.size + 3000 ≤ k) :
    turnoutref01_Parse.j3 k s n b t = some (match numV b t.data.toList with
      | some v => if v < 2 ^ n then (pH v, pL v, 0) else (0, 0, 11)
      | none => match bytesR s n with
        | none => (0, 0, 12)
        | some l => FromR (strOfNums l) n) := by
  obtain ⟨k, rfl⟩ : ∃ j, k = j + 1 := ⟨k - 1, by omega⟩
  obtain ⟨⟨x, y, f, ok⟩, h1, h2⟩ := ref_number t (by omega) b hb k (by omega)
  simp only [turnoutref01_Parse.j3]
  rw [h1, Option.bind_some]
  dsimp only
  cases hv : numV b t.data.toList with
  | none =>
    rw [hv] at h2
    obtain ⟨rfl, rfl, rfl, rfl⟩ : x = 0 ∧ y = 0 ∧ f = false ∧ ok = false := by simpa [RefRes] using h2
    rw [if_neg (by decide), ref_bytes s hs n n1 n2 k (by omega), Option.bind_some]
    cases bytesR s n with
    | none => rfl
    | some l =>
      dsimp only
      rw [if_pos rfl, ref_From _ n n1 n2 k (by omega), Option.bind_some]
  | some v =>
    rw [hv] at h2
    obtain ⟨h3, h4⟩ := h2
    simp only [Prod.mk.injEq] at h3
    obtain ⟨hf, rfl⟩ := h3
    dsimp only at h4 ⊢
    rw [if_pos rfl]
    by_cases h128 : v < 2 ^ 128
    · obtain ⟨rfl, rfl⟩ := h4 h128
      rw [if_pos (by rw [hf]; exact decide_eq_true h128), refFits_f h128 n n1 n2, Option.bind_some]
      by_cases hn : v < 2 ^ n
      · rw [if_pos (decide_eq_true hn), if_pos hn]
      · rw [if_neg (by simp [hn]), if_neg hn]
    · have hn : ¬ v < 2 ^ n := fun h => h128 (Nat.lt_of_lt_of_le h (Nat.pow_le_pow_right (by decide) n2))
      rw [if_neg (by rw [hf, decide_eq_false h128]; decide), if_neg hn]
theorem ref_Parse (s : ByteArray) (hs : s.size ≤ 140737488351232) (n : Nat) (n1 : 1 ≤ n) (n2 : n ≤ 128) (k : Nat) (hk : 2 * s.size + 4000 ≤ k) : turnoutref01_Parse.f k s n = some (ParseR s n) := by
  obtain ⟨k, rfl⟩ : ∃ j, k = j + 4 := ⟨k - 4, by omega⟩
  have hl := data_length s
  have tail := fun b t hb ht => ref_tail s hs n n1 n2 b t hb ht k (by omega)
  have tail1 := fun b t hb ht => ref_tail s hs n n1 n2 b t hb ht (k + 1) (by omega)
  have hx : ∀ b : Nat, b = 2 ∨ b = 16 → (s.extract 2 s.size).size ≤ s.size := fun _ _ => by simp [ByteArray.size_extract]
  unfold turnoutref01_Parse.f ParseR baseOf
  rw [width_yes (by omega), Option.bind_some, if_pos rfl]
  match hd : s.data.toList, hl with
  | [], hl =>
    have h0 : s.size = 0 := by simpa using hl.symm
    rw [if_neg (by omega)]
    simp only [turnoutref01_Parse.j0, turnoutref01_Parse.j1, turnoutref01_Parse.j2]
    rw [if_neg (by decide), if_neg (by omega), if_neg (by decide)]
    have := tail1 10 s (by decide) (Nat.le_refl _)
    rw [hd] at this
    rw [hd]
    exact this
  | [_], hl =>
    have h0 : s.size = 1 := by simpa using hl.symm
    rw [if_neg (by omega)]
    simp only [turnoutref01_Parse.j0, turnoutref01_Parse.j1, turnoutref01_Parse.j2]
    rw [if_neg (by decide), if_neg (by omega), if_neg (by decide)]
    have := tail1 10 s (by decide) (Nat.le_refl _)
    rw [hd] at this
    rw [hd]
    exact this
  | x :: y :: r, hl =>
    have h2 : 2 ≤ s.size := by simp at hl; omega
    have b0 : bt s 0 = (x.toNat : Int) := by
      obtain ⟨c, r, q1, q2, q3⟩ := bt_drop s 0 (by omega)
      rw [List.drop_zero, hd] at q1
      rw [(List.cons.inj q1).1]; exact q3
    have b1 : bt s 1 = (y.toNat : Int) := by
      obtain ⟨c, r, q1, q2, q3⟩ := bt_drop s 1 (by omega)
      rw [hd] at q1
      rw [show y = c from (List.cons.inj q1).1]; exact q3
    have byte : ∀ (z : UInt8) (m : Nat), m < 256 → (((z.toNat : Int) = (m : Int)) ↔ z = UInt8.ofNat m) := fun z m hm => by
      constructor
      · intro h
        apply UInt8.toNat_inj.1
        rw [UInt8.toNat_ofNat_of_lt' hm]; omega
      · intro h; rw [h, UInt8.toNat_ofNat_of_lt' hm]
    have g2 : (s.size : Int) ≥ 2 := by omega
    have g2' : (2 : Int) ≤ (s.size : Int) := by omega
    have g0 : (0 : Int) < (s.size : Int) := by omega
    have g1 : (1 : Int) < (s.size : Int) := by omega
    dsimp only
    rw [if_pos g2, if_pos g0, b0]
    by_cases hx48 : x = 48
    · have e0 : (x.toNat : Int) = 48 := (byte x 48 (by decide)).2 hx48
      rw [if_pos e0, if_pos g1, b1]
      by_cases hy : y = 120
      · have e1 : ((y.toNat : Int) == 120) = true := beq_iff_eq.2 ((byte y 120 (by decide)).2 hy)
        have e2 : ((y.toNat : Int) == 98) = false := beq_eq_false_iff_ne.2 (fun h => by have := (byte y 98 (by decide)).1 h; rw [hy] at this; exact absurd this (by decide))
        rw [e1]
        simp only [turnoutref01_Parse.j0, turnoutref01_Parse.j1, turnoutref01_Parse.j2]
        rw [if_pos trivial, if_pos g2', if_pos g2, if_pos g0, b0, if_pos e0, if_pos g1, b1, e2, if_neg (by decide), if_pos ⟨hx48, hy⟩]
        exact tail1 16 _ (by decide) (hx 2 (.inl rfl))
      · have e1 : ((y.toNat : Int) == 120) = false := beq_eq_false_iff_ne.2 (fun h => hy ((byte y 120 (by decide)).1 h))
        rw [e1, if_neg (fun h => hy h.2)]
        simp only [turnoutref01_Parse.j0, turnoutref01_Parse.j1, turnoutref01_Parse.j2]
        rw [if_neg (by decide), if_pos g2, if_pos g0, b0, if_pos e0, if_pos g1, b1]
        by_cases hy2 : y = 98
        · have e2 : ((y.toNat : Int) == 98) = true := beq_iff_eq.2 ((byte y 98 (by decide)).2 hy2)
          rw [e2, if_pos rfl, if_pos g2', if_pos ⟨hx48, hy2⟩]
          exact tail1 2 _ (by decide) (hx 2 (.inl rfl))
        · have e2 : ((y.toNat : Int) == 98) = false := beq_eq_false_iff_ne.2 (fun h => hy2 ((byte y 98 (by decide)).1 h))
          rw [e2, if_neg (by decide), if_neg (fun h => hy2 h.2)]
          exact tail1 10 _ (by decide) (Nat.le_refl _)
    · have e0 : ¬ (x.toNat : Int) = 48 := fun h => hx48 ((byte x 48 (by decide)).1 h)
      rw [if_neg e0, if_neg (fun h => hx48 h.1), if_neg (fun h => hx48 h.1)]
      simp only [turnoutref01_Parse.j0, turnoutref01_Parse.j1, turnoutref01_Parse.j2]
      rw [if_neg (by decide), if_pos g2, if_pos g0, b0, if_neg e0, if_neg (by decide)]
      exact tail1 10 _ (by decide) (Nat.le_refl _)
theorem cutPrefix2 (s : ByteArray) (p q : UInt8) : strings_CutPrefix.f s ⟨#[p, q]⟩ = some (match s.data.toList with
    | x :: y :: _ => if x = p ∧ y = q then (s.extract 2 s.size, true) else (s, false)
    | _ => (s, false)) := by
  have hl := data_length s
  have e2 : ((⟨#[p, q]⟩ : ByteArray).size : Int) = 2 := rfl
  unfold strings_CutPrefix.f stringslite_CutPrefix.f stringslite_HasPrefix.f
  rw [e2]
  match hd : s.data.toList, hl with
  | [], hl =>
    have h0 : s.size = 0 := by simpa using hl.symm
    rw [if_neg (by omega)]; rfl
  | [_], hl =>
    have h0 : s.size = 1 := by simpa using hl.symm
    rw [if_neg (by omega)]; rfl
  | x :: y :: r, hl =>
    have h2 : 2 ≤ s.size := by simp at hl; omega
    rw [if_pos (by omega), if_pos (by decide), if_pos (by omega)]
    have e : (s.extract 0 ((2 : Int)).toNat).toList = [x, y] := by
      rw [bytes_eq, Lib.extract_data, hd]; rfl
    have e3 : (⟨#[p, q]⟩ : ByteArray).toList = [p, q] := by rw [bytes_eq]
    rw [Option.bind_some, e, e3]
    dsimp only
    by_cases h : x = p ∧ y = q
    · obtain ⟨rfl, rfl⟩ := h
      rw [if_pos (by simp), if_pos (by decide), if_pos (by omega), if_pos ⟨rfl, rfl⟩]; rfl
    · rw [if_neg (by simp; exact fun a b => h ⟨a, b⟩), if_neg h]; rfl
theorem cut_yes {s : ByteArray} {p q : UInt8} {r : List UInt8} (h : s.data.toList = p :: q :: r) : strings_CutPrefix.f s ⟨#[p, q]⟩ = some (s.extract 2 s.size, true) := by
  rw [cutPrefix2, h]; dsimp only; rw [if_pos ⟨rfl, rfl⟩]
theorem cut_no {s : ByteArray} {p q : UInt8} (h : ∀ r, s.data.toList ≠ p :: q :: r) : strings_CutPrefix.f s ⟨#[p, q]⟩ = some (s, false) := by
  rw [cutPrefix2]
  split
  · rename_i x y r hd
    rw [if_neg (by rintro ⟨rfl, rfl⟩; exact h r hd)]
  · rfl
theorem base_x {s : ByteArray} {r : List UInt8} (h : s.data.toList = 48 :: 120 :: r) : baseOf s = (16, s.extract 2 s.size) := by
  unfold baseOf; rw [h]; rfl
theorem base_b {s : ByteArray} {r : List UInt8} (h : s.data.toList = 48 :: 98 :: r) : baseOf s = (2, s.extract 2 s.size) := by
  unfold baseOf; rw [h]; rfl
theorem base_no {s : ByteArray} (h1 : ∀ r, s.data.toList ≠ 48 :: 120 :: r) (h2 : ∀ r, s.data.toList ≠ 48 :: 98 :: r) : baseOf s = (10, s) := by
  unfold baseOf
  split
  · rename_i x y r hd
    rw [if_neg (by rintro ⟨rfl, rfl⟩; exact h1 r hd), if_neg (by rintro ⟨rfl, rfl⟩; exact h2 r hd)]
  · rfl
/-- The program's road: Dots first, then Colons. -/
def bytesP (s : ByteArray) (n : Nat) : Option (List Int) :=
  match (if n = 32 then okP decV 4 (piecesB 46 s) else none) with
  | some l => some l
  | none => if n % 8 = 0 ∧ 9 ≤ n then okP hexV (n / 8) (piecesB 58 s) else none
theorem own_j2 (s : ByteArray) (hs : s.size ≤ 140737488351232) (n : Nat) (n1 : 1 ≤ n) (n2 : n ≤ 128) (k : Nat) (hk : 30 ≤ k) :
    value_Parse.j2 k s n = some (match (if n % 8 = 0 ∧ 9 ≤ n then okP hexV (n / 8) (piecesB 58 s) else none) with
      | none => (0, 0, 12)
      | some l => FromR (strOfNums l) n) := by
  obtain ⟨k, rfl⟩ : ∃ j, k = j + 1 := ⟨k - 1, by omega⟩
  simp only [value_Parse.j2]
  rw [ownHas5 n n1 n2, Option.bind_some, tdiv_nat n (by omega)]
  by_cases h5 : n % 8 = 0 ∧ 9 ≤ n
  · rw [if_pos (decide_eq_true h5), if_pos h5]
    obtain ⟨x, y, h1, h2⟩ := own_pieces 58 s hs 16 (n / 8) (by omega) hexV 1 (.inr rfl) pn_hex hexV_lt
    rw [h1, Option.bind_some]
    dsimp only
    cases ho : okP hexV (n / 8) (piecesB 58 s) with
    | none =>
      rw [ho] at h2
      dsimp only at h2
      rw [h2, if_neg (by decide)]
    | some l =>
      rw [ho] at h2
      obtain ⟨rfl, rfl⟩ := h2
      rw [if_pos rfl, own_From _ n n1 n2 k (by omega), Option.bind_some]
  · rw [if_neg (by simp [h5]), if_neg h5]
theorem own_tail (s : ByteArray) (hs : s.size ≤ 140737488351232) (n : Nat) (n1 : 1 ≤ n) (n2 : n ≤ 128) (b : Nat) (t : ByteArray) (hb : b = 2 ∨ b = 10 ∨ b = 16) (ht : t.size ≤ s.size) (k : Nat) (hk : 60 ≤ k) :
    value_Parse.j0 k s n t b = some (match numV b t.data.toList with
      | some v => if v < 2 ^ n then (pH v, pL v, 0) else (0, 0, 11)
      | none => match bytesP s n with
        | none => (0, 0, 12)
        | some l => FromR (strOfNums l) n) := by
  obtain ⟨k, rfl⟩ : ∃ j, k = j + 2 := ⟨k - 2, by omega⟩
  simp only [value_Parse.j0]
  rw [own_number b (by omega) (by omega) t (by omega), Option.bind_some]
  cases hv : numV b t.data.toList with
  | none =>
    rw [show resN none = ((0 : Int), (0 : Int), false, false) from rfl]
    dsimp only
    rw [if_neg (by decide)]
    simp only [value_Parse.j1]
    rw [if_neg (by decide), if_neg (by decide)]
    have h4 : value_has.f (n : Int) 4 = some ((n : Int) == 32) := by unfold value_has.f; rw [if_pos rfl]
    rw [h4, Option.bind_some]
    unfold bytesP
    by_cases h32 : n = 32
    · subst h32
      rw [if_pos (show (((32 : Nat) : Int) == 32) = true from rfl), if_pos rfl]
      obtain ⟨x, y, h1, h2⟩ := own_pieces 46 s hs 10 4 (by decide) decV 0 (.inl rfl) pn_dec decV_lt
      have h1' : value_pieces.f s ⟨#[46]⟩ 10 4 = some (x, y) := h1
      rw [h1', Option.bind_some]
      dsimp only
      cases ho : okP decV 4 (piecesB 46 s) with
      | none =>
        rw [ho] at h2
        dsimp only at h2
        rw [h2, if_neg (by decide)]
        exact own_j2 s hs 32 n1 n2 k (by omega)
      | some l =>
        rw [ho] at h2
        obtain ⟨rfl, rfl⟩ := h2
        rw [if_pos rfl, own_From _ 32 n1 n2 k (by omega), Option.bind_some]
    · rw [if_neg (by simp; omega), if_neg h32]
      exact own_j2 s hs n n1 n2 k (by omega)
  | some v =>
    rw [show resN (some v) = (pH (v % 2 ^ 128), pL (v % 2 ^ 128), decide (v < 2 ^ 128), true) from rfl]
    dsimp only
    rw [if_pos rfl]
    by_cases h128 : v < 2 ^ 128
    · rw [if_pos (decide_eq_true h128), Nat.mod_eq_of_lt h128, Fits_f _ _ (pH_in h128) (pL_in v) n n1 n2, V_p h128, Option.bind_some]
      simp only [value_Parse.j1]
      by_cases hn : v < 2 ^ n
      · rw [decide_eq_true hn, if_neg (by decide), if_pos trivial, if_pos hn]
      · rw [decide_eq_false hn, if_pos (by decide), if_neg hn]
    · have hn : ¬ v < 2 ^ n := fun h => h128 (Nat.lt_of_lt_of_le h (Nat.pow_le_pow_right (by decide) n2))
      rw [if_neg (by rw [decide_eq_false h128]; decide)]
      simp only [value_Parse.j1]
      rw [if_pos trivial, if_neg hn]
theorem mem_cut (c x : UInt8) : ∀ l : List UInt8, x ∈ l → x = c ∨ ∃ p ∈ cutAt c l, x ∈ p
  | [], h => by cases h
  | y :: r, h => by
    rw [cutAt_cons]
    rcases List.mem_cons.1 h with rfl | h
    · by_cases e : x = c
      · exact .inl e
      · rw [if_neg e]
        right
        cases hc : cutAt c r with
        | nil => exact ⟨[x], by simp, by simp⟩
        | cons p ps => exact ⟨x :: p, by simp, by simp⟩
    · rcases mem_cut c x r h with e | ⟨p, hp, hx⟩
      · exact .inl e
      · right
        split
        · exact ⟨p, List.mem_cons_of_mem _ hp, hx⟩
        · cases hc : cutAt c r with
          | nil => exact absurd hc (cutAt_ne c r)
          | cons q ps =>
            rw [hc] at hp
            rcases List.mem_cons.1 hp with rfl | hp
            · exact ⟨y :: p, by simp, by simp [hx]⟩
            · exact ⟨p, by simp [hp], hx⟩
theorem allM_mem (g : ByteArray → Option Nat) : ∀ (ps : List ByteArray) (l : List Int), allM g ps = some l → ∀ p ∈ ps, ∃ v, g p = some v
  | [], _, _, _, h => by cases h
  | q :: ps, l, h, p, hp => by
    simp only [allM] at h
    cases hg : g q with
    | none => rw [hg] at h; cases h
    | some v =>
      rw [hg] at h
      cases hm : allM g ps with
      | none => rw [hm] at h; cases h
      | some l' =>
        rcases List.mem_cons.1 hp with rfl | hp
        · exact ⟨v, hg⟩
        · exact allM_mem g ps l' hm p hp
theorem hexV_mem {p : ByteArray} {v : Nat} (h : hexV p = some v) : ∀ x ∈ p.data.toList, wN x < 16 := by
  unfold hexV at h
  split at h
  · rename_i x y hp
    split at h
    · rename_i hh
      intro z hz
      rw [hp] at hz
      simp only [List.mem_cons, List.not_mem_nil, or_false] at hz
      rcases hz with rfl | rfl
      · exact hh.1
      · exact hh.2
    · cases h
  · cases h
theorem dots_no_colons (s : ByteArray) (m : Nat) (h4 : (piecesB 46 s).length = 4) : okP hexV m (piecesB 58 s) = none := by
  have hmem : (46 : UInt8) ∈ s.data.toList := by
    refine Classical.byContradiction fun h => ?_
    unfold piecesB at h4
    rw [cutAt_self 46 _ h] at h4
    simp at h4
  unfold okP
  split
  · cases ha : allM hexV (piecesB 58 s) with
    | none => rfl
    | some l =>
      rcases mem_cut 58 46 _ hmem with e | ⟨p, hp, hx⟩
      · exact absurd e (by decide)
      · obtain ⟨v, hv⟩ := allM_mem hexV _ l ha ⟨p.toArray⟩ (List.mem_map.2 ⟨p, hp, rfl⟩)
        have := hexV_mem hv 46 (by simpa using hx)
        exact absurd this (by decide)
  · rfl
theorem bytes_one (s : ByteArray) (n : Nat) : bytesP s n = bytesR s n := by
  unfold bytesP bytesR
  by_cases h32 : n = 32
  · rw [if_pos h32]
    by_cases h4 : (piecesB 46 s).length = 4
    · conv => rhs; rw [if_pos ⟨h32, h4⟩]
      have e : okP decV 4 (piecesB 46 s) = allM decV (piecesB 46 s) := by unfold okP; rw [if_pos h4]
      rw [e]
      cases ha : allM decV (piecesB 46 s) with
      | some l => rfl
      | none =>
        dsimp only
        rw [dots_no_colons s (n / 8) h4]
        split <;> rfl
    · conv => rhs; rw [if_neg (fun h => h4 h.2)]
      have : okP decV 4 (piecesB 46 s) = none := by unfold okP; rw [if_neg h4]
      rw [this]
  · rw [if_neg h32]
    conv => rhs; rw [if_neg (fun h => h32 h.1)]
theorem own_Parse (s : ByteArray) (hs : s.size ≤ 140737488351232) (n : Nat) (n1 : 1 ≤ n) (n2 : n ≤ 128) (k : Nat) (hk : 60 ≤ k) : value_Parse.f k s n = some (ParseR s n) := by
  have tail := fun b t hb ht => own_tail s hs n n1 n2 b t hb ht k hk
  have hx : (s.extract 2 s.size).size ≤ s.size := by simp [ByteArray.size_extract]
  rw [bytes_one] at tail
  unfold value_Parse.f
  rw [isWidth_yes (by omega), Option.bind_some, if_pos rfl]
  by_cases h1 : ∃ r, s.data.toList = 48 :: 120 :: r
  · obtain ⟨r, hr⟩ := h1
    rw [cut_yes hr, Option.bind_some]
    dsimp only
    rw [if_pos rfl]
    unfold ParseR
    rw [base_x hr]
    exact tail 16 _ (by decide) hx
  · have h1' : ∀ r, s.data.toList ≠ 48 :: 120 :: r := fun r h => h1 ⟨r, h⟩
    rw [cut_no h1', Option.bind_some]
    dsimp only
    rw [if_neg Bool.false_ne_true]
    by_cases h2 : ∃ r, s.data.toList = 48 :: 98 :: r
    · obtain ⟨r, hr⟩ := h2
      rw [cut_yes hr, Option.bind_some]
      dsimp only
      rw [if_pos rfl]
      unfold ParseR
      rw [base_b hr]
      exact tail 2 _ (by decide) hx
    · have h2' : ∀ r, s.data.toList ≠ 48 :: 98 :: r := fun r h => h2 ⟨r, h⟩
      rw [cut_no h2', Option.bind_some]
      dsimp only
      rw [if_neg Bool.false_ne_true]
      unfold ParseR
      rw [base_no h1' h2']
      exact tail 10 _ (by decide) (Nat.le_refl _)
theorem Parse_no (s : ByteArray) (w : Int) (hw : ¬ (1 ≤ w ∧ w ≤ 128)) (k : Nat) : value_Parse.f k s w = some (0, 0, 10) ∧ turnoutref01_Parse.f k s w = some (0, 0, 10) := by
  constructor
  · unfold value_Parse.f; rw [isWidth_no hw]; rfl
  · unfold turnoutref01_Parse.f; rw [width_no hw]; rfl
end Go.Proofs.YtofnhgpiipmegaaDoor.PV
namespace Go.Proofs.YtofnhgpiipmegaaDoor.PV
open Go.RowKit Go.Proofs.YtofnhgpiipmegaaDoorW.PrintWords Go.Proofs.YtofnhgpiipmegaaDoorW.PrintLast Go.Proofs.YtofnhgpiipmegaaDoorW.PrintMore
set_option linter.unusedVariables false
set_option linter.unusedSimpArgs false
def byL (m v : Nat) : List UInt8 := (strOfNums (beL m v)).data.toList
theorem str_data (l : List Int) : (strOfNums l).data.toList = l.map fun n => UInt8.ofNat n.toNat := by simp [strOfNums]
theorem byL_len (m v : Nat) : (byL m v).length = m := by unfold byL; rw [str_data, List.length_map, beL_length]
theorem ref_Bytes_go (v : Nat) (hv : v < 2 ^ 128) : ∀ (d k : Nat) (acc : List Int), d ≤ 16 → acc.length + d ≤ 16 → d < k →
    turnoutref01_Bytes.l0 k acc ((d : Int) - 1) (pH v) (pL v) = some (strOfNums (acc ++ beL d v), 0) := by
  intro d
  induction d with
  | zero =>
    intro k acc _ _ hk
    obtain ⟨k, rfl⟩ : ∃ j, k = j + 1 := ⟨k - 1, by omega⟩
    simp only [turnoutref01_Bytes.l0]
    rw [if_neg (by omega)]; simp [beL]
  | succ d ih =>
    intro k acc hd ha hk
    obtain ⟨k, rfl⟩ : ∃ j, k = j + 1 := ⟨k - 1, by omega⟩
    have e0 : (((d + 1 : Nat) : Int) - 1) = (d : Int) := by omega
    have e1 : wrap64 ((d : Int) - 1) = (d : Int) - 1 := by unfold wrap64; omega
    have e2 : Int.tmod (d : Int) 8 = ((d % 8 : Nat) : Int) := tmod_nat d
    have e3 : IntKind.u64.wrap (wrap64 (8 * ((d % 8 : Nat) : Int))) = ((8 * (d % 8) : Nat) : Int) := by rw [wrapU_eq]; unfold wrap64; omega
    have last : ∀ x : Nat, Int.tmod (x : Int) 256 % 256 = ((x % 256 : Nat) : Int) := fun x => by
      rw [show (256 : Int) = ((256 : Nat) : Int) from rfl, ← Int.ofNat_tmod]; omega
    simp only [turnoutref01_Bytes.l0]
    rw [e0, e1, e2, e3, if_pos (by omega)]
    have hbe : beL (d + 1) v = ((v / 256 ^ d % 256 : Nat) : Int) :: beL d v := rfl
    by_cases h8 : 8 ≤ d
    · have hs : shr .u64 (pH v) ((8 * (d % 8) : Nat) : Int) = ((v / 256 ^ d : Nat) : Int) := by
        unfold pH
        rw [shr_n _ _ (by omega), Nat.shiftRight_eq_div_pow, Nat.div_div_eq_div_mul, ← Nat.pow_add, show 64 + 8 * (d % 8) = 8 * d from by omega, Nat.pow_mul]
      rw [if_pos (by omega), if_pos (by omega), if_pos (by omega), hs, last, ih k _ (by omega) (by rw [List.length_append, List.length_singleton]; omega) (by omega), hbe]
      simp
    · have hs : Int.tmod (shr .u64 (pL v) ((8 * (d % 8) : Nat) : Int)) 256 % 256 = ((v / 256 ^ d % 256 : Nat) : Int) := by
        unfold pL
        rw [shr_n _ _ (by omega), last, Nat.shiftRight_eq_div_pow, show 8 * (d % 8) = 8 * d from by omega, Nat.pow_mul, show (2 : Nat) ^ 8 = 256 from rfl]
        have : (2 : Nat) ^ 64 = 256 ^ d * 256 ^ (8 - d) := by rw [← Nat.pow_add, show d + (8 - d) = 8 from by omega]
        rw [this, Nat.mod_mul_right_div_self, Nat.mod_mod_of_dvd]
        exact ⟨256 ^ (7 - d), by rw [show 8 - d = (7 - d) + 1 from by omega, Nat.pow_succ, Nat.mul_comm]⟩
      rw [if_neg (by omega), if_pos (by omega), if_pos (by omega), hs, ih k _ (by omega) (by rw [List.length_append, List.length_singleton]; omega) (by omega), hbe]
      simp
theorem ref_Bytes (v n : Nat) (n1 : 1 ≤ n) (n2 : n ≤ 128) (hv : v < 2 ^ n) (k : Nat) (hk : 20 ≤ k) : turnoutref01_Bytes.f k (pH v) (pL v) n = some (strOfNums (beL ((n + 7) / 8) v), 0) := by
  have hA : v < 2 ^ 128 := Nat.lt_of_lt_of_le hv (Nat.pow_le_pow_right (by decide) n2)
  unfold turnoutref01_Bytes.f turnoutref01_Long.f
  rw [width_yes (by omega), Option.bind_some, if_pos rfl, refFits_f hA n n1 n2, decide_eq_true hv, Option.bind_some, if_pos rfl, Option.bind_some, long_nat n n2]
  have e : wrap64 ((((n + 7) / 8 : Nat) : Int) - 1) = ((((n + 7) / 8 : Nat) : Int) - 1) := by unfold wrap64; omega
  rw [e, ref_Bytes_go v hA _ k [] (by omega) (by simp; omega) (by omega)]
  rfl
def pieceT (form : Nat) (c : UInt8) : ByteArray := if form = 4 then dgB 10 c.toNat else hexB c.toNat
theorem dgs_len (b : Nat) : ∀ (f v : Nat) (acc : List Nat), (dgs b f v acc).length ≤ f + acc.length
  | 0, v, acc => by simp [dgs]
  | f + 1, v, acc => by
    simp only [dgs]
    split
    · simp; omega
    · have := dgs_len b f (v / b) (v % b :: acc); simp at this; omega
theorem pieceT_size (form : Nat) (c : UInt8) : (pieceT form c).size ≤ 128 := by
  rw [← data_length]
  unfold pieceT
  split
  · unfold dgB; have := dgs_len 10 128 c.toNat []; simpa using this
  · unfold hexB; rw [str_data]; simp
theorem joinB_len (sep : ByteArray) (hs : sep.size = 1) : ∀ l : List ByteArray, (∀ p ∈ l, p.size ≤ 128) → (joinB l sep).length ≤ 129 * l.length
  | [], _ => by simp [joinB, Lib.join_nil]
  | p :: r, h => by
    have hp := h p List.mem_cons_self
    have ht : ∀ r : List ByteArray, (∀ p ∈ r, p.size ≤ 128) → (Lib.joinTail sep.data.toList (r.map (fun x => x.data.toList))).length ≤ 129 * r.length := by
      intro r
      induction r with
      | nil => intro _; simp [Lib.joinTail]
      | cons q r ih =>
        intro h
        have hq := h q List.mem_cons_self
        have := ih (fun p hp => h p (List.mem_cons_of_mem _ hp))
        unfold Lib.joinTail at this ⊢
        rw [List.map_cons, List.map_cons, List.flatten_cons, List.length_append, List.length_append, List.length_cons, data_length, data_length]
        omega
    have := ht r (fun p hp => h p (List.mem_cons_of_mem _ hp))
    unfold joinB
    rw [List.map_cons, Lib.join_cons, List.length_append, List.length_cons, data_length]
    omega
theorem joinB_snoc (sep p : ByteArray) (l : List ByteArray) : joinB (l ++ [p]) sep = if l = [] then p.data.toList else joinB l sep ++ (sep.data.toList ++ p.data.toList) := by
  cases l with
  | nil => simp [joinB, Lib.join_one]
  | cons q r =>
    rw [if_neg (by simp)]
    unfold joinB
    rw [List.cons_append, List.map_cons, List.map_cons, Lib.join_cons, Lib.join_cons]
    unfold Lib.joinTail
    simp
def sepT (form : Nat) : ByteArray := if form = 4 then ⟨#[46]⟩ else ⟨#[58]⟩
theorem sepT_size (form : Nat) : (sepT form).size = 1 := by unfold sepT; split <;> rfl
def joinT (form : Nat) (bs : List UInt8) : ByteArray := ⟨(joinB (bs.map (pieceT form)) (sepT form)).toArray⟩
theorem digit_byte (c : UInt8) : pH c.toNat = 0 ∧ pL c.toNat = (c.toNat : Int) := by
  have := UInt8.toNat_lt c
  unfold pH pL
  rw [two64]
  constructor <;> omega
theorem own_Join (form : Nat) (bs : List UInt8) (h : bs.length ≤ 16) : strings_Join.f (bs.map (pieceT form)) (sepT form) = some (joinT form bs) := by
  unfold strings_Join.f joinT
  have h2 := joinB_len (sepT form) (sepT_size form) (bs.map (pieceT form)) (fun p hp => by obtain ⟨c, _, rfl⟩ := List.mem_map.1 hp; exact pieceT_size form c)
  rw [List.length_map] at h2
  rw [if_pos ⟨by rw [List.length_map]; omega, by omega⟩]
theorem own_Text_go (form : Nat) (s : ByteArray) (hs : s.size ≤ 16) (hf : form = 4 ∨ form = 5) : ∀ (d i k : Nat) (acc : List ByteArray), i + d = s.size → acc.length = i → d < k →
    value_Text.l0 k form s acc (s.size : Int) i = (strings_Join.f (acc ++ (s.data.toList.drop i).map (pieceT form)) (sepT form)).bind fun t => some (t, 0) := by
  intro d
  induction d with
  | zero =>
    intro i k acc hd ha hk
    obtain ⟨k, rfl⟩ : ∃ j, k = j + 1 := ⟨k - 1, by omega⟩
    simp only [value_Text.l0]
    rw [if_neg (by omega), List.drop_eq_nil_of_le (by rw [data_length]; omega)]
    rcases hf with rfl | rfl
    · rw [if_pos (show ((4 : Nat) : Int) = 4 from rfl)]; simp [sepT]
    · rw [if_neg (by decide)]; simp [sepT]
  | succ d ih =>
    intro i k acc hd ha hk
    obtain ⟨k, rfl⟩ : ∃ j, k = j + 1 := ⟨k - 1, by omega⟩
    obtain ⟨c, r, h1, h2, h3⟩ := bt_drop s i (by omega)
    have e : wrap64 ((i : Int) + 1) = ((i + 1 : Nat) : Int) := by unfold wrap64; omega
    have hc := UInt8.toNat_lt c
    have hw : IntKind.u64.wrap (c.toNat : Int) = (c.toNat : Int) := by rw [wrapU_eq]; omega
    have hrec : ∀ p, p = pieceT form c → value_Text.l0 k form s (acc ++ [p]) (s.size : Int) ((i + 1 : Nat) : Int) = (strings_Join.f (acc ++ (s.data.toList.drop i).map (pieceT form)) (sepT form)).bind fun t => some (t, 0) := by
      rintro p rfl
      rw [ih (i + 1) k _ (by omega) (by rw [List.length_append, List.length_singleton]; omega) (by omega), h1, h2]
      simp
    simp only [value_Text.l0]
    rw [if_pos (by omega), h3, e, hw]
    rcases hf with rfl | rfl
    · obtain ⟨d1, d2⟩ := digit_byte c
      have hdig := own_digits 10 c.toNat (by decide) (Nat.lt_of_lt_of_le hc (by decide))
      rw [d1, d2] at hdig
      have hdig' : value_digits.f 0 (c.toNat : Int) 10 = some (dgB 10 c.toNat) := hdig
      rw [if_pos (show ((4 : Nat) : Int) = 4 from rfl), if_pos (by omega), if_pos (by omega), hdig', Option.bind_some, if_pos (by omega)]
      exact hrec _ rfl
    · rw [if_neg (by decide), if_pos (by omega), if_pos (by omega), if_pos (by omega)]
      exact hrec _ rfl
theorem ref_Text_go (form : Nat) (s : ByteArray) (hs : s.size ≤ 16) (hf : form = 4 ∨ form = 5) : ∀ (d i k : Nat) (l : List UInt8), i + d = s.size → l.length = i → d + 500 < k →
    turnoutref01_Text.l0 k form s (joinT form l) i = some (joinT form (l ++ s.data.toList.drop i), 0) := by
  intro d
  induction d with
  | zero =>
    intro i k l hd ha hk
    obtain ⟨k, rfl⟩ : ∃ j, k = j + 1 := ⟨k - 1, by omega⟩
    simp only [turnoutref01_Text.l0]
    rw [if_neg (by omega), List.drop_eq_nil_of_le (by rw [data_length]; omega), List.append_nil]
  | succ d ih =>
    intro i k l hd ha hk
    obtain ⟨k, rfl⟩ : ∃ j, k = j + 1 := ⟨k - 1, by omega⟩
    obtain ⟨c, r, h1, h2, h3⟩ := bt_drop s i (by omega)
    have e : wrap64 ((i : Int) + 1) = ((i + 1 : Nat) : Int) := by unfold wrap64; omega
    have hc := UInt8.toNat_lt c
    have hw : IntKind.u64.wrap (c.toNat : Int) = (c.toNat : Int) := by rw [wrapU_eq]; omega
    have hw2 : wrap64 (c.toNat : Int) = (c.toNat : Int) := by unfold wrap64; omega
    have hsz : (joinT form l).size ≤ 129 * l.length := by
      have := joinB_len (sepT form) (sepT_size form) (l.map (pieceT form)) (fun p hp => by obtain ⟨c, _, rfl⟩ := List.mem_map.1 hp; exact pieceT_size form c)
      rw [List.length_map] at this
      rw [← data_length]; exact this
    have hps := pieceT_size form c
    have next : turnoutref01_Text.l0 k form s (joinT form (l ++ [c])) ((i + 1 : Nat) : Int) = some (joinT form (l ++ s.data.toList.drop i), 0) := by
      rw [ih (i + 1) k (l ++ [c]) (by omega) (by rw [List.length_append, List.length_singleton]; omega) (by omega), h1, h2]; simp
    have snoc0 : l = [] → joinT form l ++ pieceT form c = joinT form (l ++ [c]) := by
      rintro rfl
      apply ext_bytes
      unfold joinT
      rw [List.map_append, List.map_singleton, joinB_snoc, ByteArray.data_append]
      simp [joinB, Lib.join_nil]
    have snoc1 : l ≠ [] → (joinT form l ++ sepT form) ++ pieceT form c = joinT form (l ++ [c]) := by
      intro hne
      apply ext_bytes
      unfold joinT
      rw [List.map_append, List.map_singleton, joinB_snoc, if_neg (by simpa using hne), ByteArray.data_append, ByteArray.data_append]
      simp
    simp only [turnoutref01_Text.l0]
    rw [if_pos (by omega), if_pos (by omega), h3, e, hw2, hw]
    rcases hf with rfl | rfl
    · obtain ⟨d1, d2⟩ := digit_byte c
      have hdig := ref_digits 10 c.toNat k (by decide) (by decide) (Nat.lt_of_lt_of_le hc (by decide)) (by omega)
      rw [d1, d2] at hdig
      have hdig' : turnoutref01_digits.f k 0 (c.toNat : Int) 10 = some (pieceT 4 c) := hdig
      rw [if_pos (show ((4 : Nat) : Int) = 4 from rfl), hdig']
      by_cases hi : 0 < i
      · have hne : l ≠ [] := fun h => by rw [h] at ha; simp at ha; omega
        have s1 := snoc1 hne
        have se : sepT 4 = (⟨#[46]⟩ : ByteArray) := rfl
        rw [se] at s1
        rw [if_pos (by omega), if_pos (by omega), Option.bind_some, if_pos (by rw [ByteArray.size_append]; have : (⟨#[46]⟩ : ByteArray).size = 1 := rfl; omega), s1]
        exact next
      · have he : l = [] := List.length_eq_zero_iff.1 (by omega)
        rw [if_neg (by omega), Option.bind_some, if_pos (by omega), snoc0 he]
        exact next
    · have f1 : turnoutref01_sign.f (wrap64 (Int.tdiv (c.toNat : Int) 16)) = some (signI (c.toNat / 16)) := by
        rw [show (16 : Int) = ((16 : Nat) : Int) from rfl, ← Int.ofNat_tdiv, wrap64_small (by omega) (by omega)]
        exact sign_f _ (by omega)
      have f2 : turnoutref01_sign.f (Int.tmod (c.toNat : Int) 16) = some (signI (c.toNat % 16)) := by
        rw [show (16 : Int) = ((16 : Nat) : Int) from rfl, ← Int.ofNat_tmod]
        exact sign_f _ (by omega)
      have hp : strOfNums [signI (c.toNat / 16), signI (c.toNat % 16)] = pieceT 5 c := by
        unfold pieceT hexB
        rw [if_neg (by decide)]
        congr 2
      rw [if_neg (by decide), f1, f2]
      by_cases hi : 0 < i
      · have hne : l ≠ [] := fun h => by rw [h] at ha; simp at ha; omega
        have s1 := snoc1 hne
        have se : sepT 5 = (⟨#[58]⟩ : ByteArray) := rfl
        rw [se] at s1
        rw [if_pos (by omega), if_pos (by omega)]
        simp only [Option.bind_some]
        rw [hp, if_pos (by rw [ByteArray.size_append]; have : (⟨#[58]⟩ : ByteArray).size = 1 := rfl; omega), s1]
        exact next
      · have he : l = [] := List.length_eq_zero_iff.1 (by omega)
        rw [if_neg (by omega)]
        simp only [Option.bind_some]
        rw [hp, if_pos (by omega), snoc0 he]
        exact next
end Go.Proofs.YtofnhgpiipmegaaDoor.PV
namespace Go.Proofs.YtofnhgpiipmegaaDoor.PV
open Go.RowKit Go.Proofs.YtofnhgpiipmegaaDoorW.PrintWords Go.Proofs.YtofnhgpiipmegaaDoorW.PrintLast Go.Proofs.YtofnhgpiipmegaaDoorW.PrintMore
set_option linter.unusedVariables false
set_option linter.unusedSimpArgs false
def hasF (n : Nat) (form : Int) : Bool := if form = 4 then decide (n = 32) else if form = 5 then decide (n % 8 = 0 ∧ 9 ≤ n) else true
def TextR (v n : Nat) (form : Int) : ByteArray × Int :=
  if form < 1 ∨ 5 < form then (⟨#[]⟩, 1) else if hasF n form = false then (⟨#[]⟩, 10) else if ¬ v < 2 ^ n then (⟨#[]⟩, 11)
  else if form = 1 then (dgB 10 v, 0) else if form = 2 then ((⟨#[48, 120]⟩ : ByteArray) ++ dgB 16 v, 0) else if form = 3 then ((⟨#[48, 98]⟩ : ByteArray) ++ dgB 2 v, 0)
  else if form = 4 then (joinT 4 (byL ((n + 7) / 8) v), 0) else (joinT 5 (byL ((n + 7) / 8) v), 0)
theorem TextR_bad (v n : Nat) (form : Int) (h : form < 1 ∨ 5 < form) : TextR v n form = (⟨#[]⟩, 1) := if_pos h
theorem TextR_has (v n : Nat) (form : Int) (h : ¬ (form < 1 ∨ 5 < form)) (hh : hasF n form = false) : TextR v n form = (⟨#[]⟩, 10) := by unfold TextR; rw [if_neg h, if_pos hh]
theorem TextR_fit (v n : Nat) (form : Int) (h : ¬ (form < 1 ∨ 5 < form)) (hh : hasF n form = true) (hn : ¬ v < 2 ^ n) : TextR v n form = (⟨#[]⟩, 11) := by unfold TextR; rw [if_neg h, hh, if_neg (by decide), if_pos hn]
theorem TextR_in (v n : Nat) (form : Int) (h : ¬ (form < 1 ∨ 5 < form)) (hh : hasF n form = true) (hn : v < 2 ^ n) : TextR v n form = if form = 1 then (dgB 10 v, 0) else if form = 2 then ((⟨#[48, 120]⟩ : ByteArray) ++ dgB 16 v, 0) else if form = 3 then ((⟨#[48, 98]⟩ : ByteArray) ++ dgB 2 v, 0)
  else if form = 4 then (joinT 4 (byL ((n + 7) / 8) v), 0) else (joinT 5 (byL ((n + 7) / 8) v), 0) := by
  unfold TextR; rw [if_neg h, hh, if_neg (by decide), if_neg (fun g => g hn)]
theorem own_has (n : Nat) (n1 : 1 ≤ n) (n2 : n ≤ 128) (form : Int) : value_has.f n form = some (hasF n form) := by
  unfold hasF
  by_cases h4 : form = 4
  · subst h4
    rw [if_pos rfl]
    unfold value_has.f
    rw [if_pos rfl]
    congr 1
    by_cases h : n = 32
    · subst h; rfl
    · rw [decide_eq_false h]; exact beq_eq_false_iff_ne.2 (by omega)
  · rw [if_neg h4]
    by_cases h5 : form = 5
    · subst h5
      rw [if_pos rfl]
      exact ownHas5 n n1 n2
    · rw [if_neg h5]
      unfold value_has.f
      rw [if_neg h4, if_neg h5, isWidth_yes (by omega)]; rfl
theorem ref_has (n k : Nat) (n1 : 1 ≤ n) (n2 : n ≤ 128) (form : Int) (h : ¬ (form < 1 ∨ 5 < form)) : turnoutref01_Has.f (k + 1) n form = some (hasF n form) := by
  unfold hasF
  rcases (show form = 1 ∨ form = 2 ∨ form = 3 ∨ form = 4 ∨ form = 5 by omega) with rfl | rfl | rfl | rfl | rfl
  · unfold turnoutref01_Has.f
    rw [if_pos rfl]
    simp only [turnoutref01_Has.j0]
    rw [if_pos (by decide), width_yes (by omega)]; rfl
  · unfold turnoutref01_Has.f
    rw [if_neg (by decide), if_pos rfl]
    simp only [turnoutref01_Has.j0]
    rw [if_pos (by decide), width_yes (by omega)]; rfl
  · unfold turnoutref01_Has.f
    rw [if_neg (by decide), if_neg (by decide)]
    simp only [turnoutref01_Has.j0]
    rw [if_pos (by decide), width_yes (by omega)]; rfl
  · unfold turnoutref01_Has.f
    rw [if_neg (by decide), if_neg (by decide)]
    simp only [turnoutref01_Has.j0]
    rw [if_neg (by decide), if_pos trivial]
    rw [if_pos trivial]
    congr 1
    by_cases h : n = 32
    · subst h; rfl
    · rw [decide_eq_false h]; exact beq_eq_false_iff_ne.2 (by omega)
  · rw [if_neg (by decide), if_pos rfl]
    exact refHas5 n k n1 n2
theorem dgB_size (b v : Nat) : (dgB b v).size ≤ 128 := by
  rw [← data_length]; unfold dgB
  have := dgs_len b 128 v []
  simpa using this
theorem byL_size (m v : Nat) : (strOfNums (beL m v)).size = m := by rw [← data_length]; exact byL_len m v
theorem own_Text (v n : Nat) (n1 : 1 ≤ n) (n2 : n ≤ 128) (hv : v < 2 ^ 128) (form : Int) (k : Nat) (hk : 60 ≤ k) : value_Text.f k (pH v) (pL v) n form = some (TextR v n form) := by
  obtain ⟨k, rfl⟩ : ∃ j, k = j + 1 := ⟨k - 1, by omega⟩
  unfold value_Text.f
  by_cases hb : form < 1 ∨ 5 < form
  · rw [TextR_bad v n form hb]
    rcases hb with hb | hb
    · rw [if_pos hb]; simp only [value_Text.j0]; rw [if_pos trivial]
    · rw [if_neg (by omega), decide_eq_true hb]; simp only [value_Text.j0]; rw [if_pos trivial]
  · rw [if_neg (by omega), decide_eq_false (by omega)]
    simp only [value_Text.j0]
    rw [if_neg (by decide), own_has n n1 n2, Option.bind_some]
    cases hh : hasF n form with
    | false => rw [if_neg (by decide), TextR_has v n form hb hh]
    | true =>
      rw [if_pos rfl, Fits_f _ _ (pH_in hv) (pL_in v) n n1 n2, V_p hv, Option.bind_some]
      by_cases hn : v < 2 ^ n
      · rw [if_pos (decide_eq_true hn), TextR_in v n form hb hh hn]
        rcases (show form = 1 ∨ form = 2 ∨ form = 3 ∨ form = 4 ∨ form = 5 by omega) with rfl | rfl | rfl | rfl | rfl
        · have := own_digits 10 v (by decide) hv
          rw [if_pos rfl, if_pos rfl, show (10 : Int) = ((10 : Nat) : Int) from rfl, this]; rfl
        · have := own_digits 16 v (by decide) hv
          have hd := dgB_size 16 v
          rw [if_neg (by decide), if_pos rfl, if_neg (by decide), if_pos rfl, show (16 : Int) = ((16 : Nat) : Int) from rfl, this, Option.bind_some, if_pos (by omega)]
        · have := own_digits 2 v (by decide) hv
          have hd := dgB_size 2 v
          rw [if_neg (by decide), if_neg (by decide), if_pos rfl, if_neg (by decide), if_neg (by decide), if_pos rfl, show value_digits.f (pH v) (pL v) 2 = some (dgB 2 v) from this, Option.bind_some, if_pos (by omega)]
        · rw [if_neg (by decide), if_neg (by decide), if_neg (by decide), if_neg (by decide), if_neg (by decide), if_neg (by decide), if_pos rfl, Bytes_f _ _ (pH_in hv) (pL_in v) n k n1 n2 (by rw [V_p hv]; exact hn) (by omega), V_p hv, Option.bind_some]
          have hsz := byL_size ((n + 7) / 8) v
          have := own_Text_go 4 (strOfNums (beL ((n + 7) / 8) v)) (by omega) (.inl rfl) ((n + 7) / 8) 0 k [] (by omega) rfl (by omega)
          rw [List.drop_zero, List.nil_append, own_Join 4 _ (by rw [data_length]; omega)] at this
          exact this
        · rw [if_neg (by decide), if_neg (by decide), if_neg (by decide), if_neg (by decide), if_neg (by decide), if_neg (by decide), if_neg (by decide), Bytes_f _ _ (pH_in hv) (pL_in v) n k n1 n2 (by rw [V_p hv]; exact hn) (by omega), V_p hv, Option.bind_some]
          have hsz := byL_size ((n + 7) / 8) v
          have := own_Text_go 5 (strOfNums (beL ((n + 7) / 8) v)) (by omega) (.inr rfl) ((n + 7) / 8) 0 k [] (by omega) rfl (by omega)
          rw [List.drop_zero, List.nil_append, own_Join 5 _ (by rw [data_length]; omega)] at this
          exact this
      · rw [if_neg (by simp [hn]), TextR_fit v n form hb hh hn]
theorem ref_Text (v n : Nat) (n1 : 1 ≤ n) (n2 : n ≤ 128) (hv : v < 2 ^ 128) (form : Int) (k : Nat) (hk : 700 ≤ k) : turnoutref01_Text.f k (pH v) (pL v) n form = some (TextR v n form) := by
  obtain ⟨k, rfl⟩ : ∃ j, k = j + 2 := ⟨k - 2, by omega⟩
  unfold turnoutref01_Text.f
  by_cases hb : form < 1 ∨ 5 < form
  · rw [TextR_bad v n form hb]
    rcases hb with hb | hb
    · rw [if_pos hb]; simp only [turnoutref01_Text.j0]; rw [if_pos trivial]
    · rw [if_neg (by omega), decide_eq_true hb]; simp only [turnoutref01_Text.j0]; rw [if_pos trivial]
  · rw [if_neg (by omega), decide_eq_false (by omega)]
    simp only [turnoutref01_Text.j0]
    rw [if_neg (by decide), ref_has n k n1 n2 form hb, Option.bind_some]
    cases hh : hasF n form with
    | false => rw [if_neg (by decide), TextR_has v n form hb hh]
    | true =>
      rw [if_pos rfl, refFits_f hv n n1 n2, Option.bind_some]
      by_cases hn : v < 2 ^ n
      · rw [if_pos (decide_eq_true hn), TextR_in v n form hb hh hn]
        rcases (show form = 1 ∨ form = 2 ∨ form = 3 ∨ form = 4 ∨ form = 5 by omega) with rfl | rfl | rfl | rfl | rfl
        · have := ref_digits 10 v (k + 1) (by decide) (by decide) hv (by omega)
          rw [if_pos rfl, if_pos rfl, show (10 : Int) = ((10 : Nat) : Int) from rfl, this]; rfl
        · have := ref_digits 16 v (k + 1) (by decide) (by decide) hv (by omega)
          have hd := dgB_size 16 v
          rw [if_neg (by decide), if_pos rfl, if_neg (by decide), if_pos rfl, show (16 : Int) = ((16 : Nat) : Int) from rfl, this, Option.bind_some, if_pos (by omega)]
        · have := ref_digits 2 v (k + 1) (by decide) (by decide) hv (by omega)
          have hd := dgB_size 2 v
          rw [if_neg (by decide), if_neg (by decide), if_pos rfl, if_neg (by decide), if_neg (by decide), if_pos rfl, show turnoutref01_digits.f (k + 1) (pH v) (pL v) 2 = some (dgB 2 v) from this, Option.bind_some, if_pos (by omega)]
        · rw [if_neg (by decide), if_neg (by decide), if_neg (by decide), if_neg (by decide), if_neg (by decide), if_neg (by decide), if_pos rfl, ref_Bytes v n n1 n2 hn (k + 1) (by omega), Option.bind_some]
          have hsz := byL_size ((n + 7) / 8) v
          have := ref_Text_go 4 (strOfNums (beL ((n + 7) / 8) v)) (by omega) (.inl rfl) ((n + 7) / 8) 0 (k + 1) [] (by omega) rfl (by omega)
          rw [List.drop_zero, List.nil_append] at this
          exact this
        · rw [if_neg (by decide), if_neg (by decide), if_neg (by decide), if_neg (by decide), if_neg (by decide), if_neg (by decide), if_neg (by decide), ref_Bytes v n n1 n2 hn (k + 1) (by omega), Option.bind_some]
          have hsz := byL_size ((n + 7) / 8) v
          have := ref_Text_go 5 (strOfNums (beL ((n + 7) / 8) v)) (by omega) (.inr rfl) ((n + 7) / 8) 0 (k + 1) [] (by omega) rfl (by omega)
          rw [List.drop_zero, List.nil_append] at this
          exact this
      · rw [if_neg (by simp [hn]), TextR_fit v n form hb hh hn]
theorem Text_no (hi lo w form : Int) (hw : ¬ (1 ≤ w ∧ w ≤ 128)) (k : Nat) : ∃ e, value_Text.f (k + 2) hi lo w form = some (⟨#[]⟩, e) ∧ turnoutref01_Text.f (k + 2) hi lo w form = some (⟨#[]⟩, e) := by
  have h32 : ¬ w = 32 := fun h => hw (by omega)
  by_cases hb : form < 1 ∨ 5 < form
  · refine ⟨1, ?_, ?_⟩
    · unfold value_Text.f
      rcases hb with hb | hb
      · rw [if_pos hb]; simp only [value_Text.j0]; rw [if_pos trivial]
      · rw [if_neg (by omega), decide_eq_true hb]; simp only [value_Text.j0]; rw [if_pos trivial]
    · unfold turnoutref01_Text.f
      rcases hb with hb | hb
      · rw [if_pos hb]; simp only [turnoutref01_Text.j0]; rw [if_pos trivial]
      · rw [if_neg (by omega), decide_eq_true hb]; simp only [turnoutref01_Text.j0]; rw [if_pos trivial]
  · refine ⟨10, ?_, ?_⟩
    · unfold value_Text.f
      rw [if_neg (by omega), decide_eq_false (by omega)]
      simp only [value_Text.j0]
      have hn : value_has.f w form = some false := by
        unfold value_has.f
        rw [isWidth_no hw]
        by_cases h4 : form = 4
        · rw [if_pos h4]; congr 1; exact beq_eq_false_iff_ne.2 h32
        · rw [if_neg h4]
          split <;> rfl
      rw [if_neg (by decide), hn, Option.bind_some, if_neg (by decide)]
    · unfold turnoutref01_Text.f
      rw [if_neg (by omega), decide_eq_false (by omega)]
      simp only [turnoutref01_Text.j0]
      have hn : turnoutref01_Has.f (k + 1) w form = some false := by
        unfold turnoutref01_Has.f
        rcases (show form = 1 ∨ form = 2 ∨ form = 3 ∨ form = 4 ∨ form = 5 by omega) with rfl | rfl | rfl | rfl | rfl
        · rw [if_pos rfl]; simp only [turnoutref01_Has.j0]; rw [if_pos (by decide), width_no hw]; rfl
        · rw [if_neg (by decide), if_pos rfl]; simp only [turnoutref01_Has.j0]; rw [if_pos (by decide), width_no hw]; rfl
        · rw [if_neg (by decide), if_neg (by decide)]; simp only [turnoutref01_Has.j0]; rw [if_pos (by decide), width_no hw]; rfl
        · rw [if_neg (by decide), if_neg (by decide)]; simp only [turnoutref01_Has.j0]; rw [if_neg (by decide), if_pos trivial]; congr 1; exact beq_eq_false_iff_ne.2 h32
        · rw [if_neg (by decide), if_neg (by decide)]; simp only [turnoutref01_Has.j0]; rw [if_neg (by decide), if_neg (by decide), if_pos trivial, width_no hw]; rfl
      rw [if_neg (by decide), hn, Option.bind_some, if_neg (by decide)]
theorem awake_t : turnoutlaw01_awake.f 40 = some true := by decide +kernel
theorem awake_texts (k : Nat) (h : 40 ≤ k) : turnoutlaw01_awake.f k = some true := at_rounds (g := turnoutlaw01_awake.f) (fun k => turnoutlaw01_awake.mono k) h awake_t
theorem ValueTexts_pure (a0 a1 w form : Int) (s : ByteArray) (h1 : inU a0 = true) (h2 : inU a1 = true) (hs : s.size ≤ 140737488351232) : ∃ k, turnoutlaw01_ValueTexts.f k a0 a1 w form s = some true := by
  refine ⟨2 * s.size + 6000, ?_⟩
  obtain ⟨v, hv, rfl, rfl⟩ : ∃ v, v < 2 ^ 128 ∧ pH v = a0 ∧ pL v = a1 := ⟨V a0 a1, V_lt h1 h2, pH_V h1 h2, pL_V h1 h2⟩
  unfold turnoutlaw01_ValueTexts.f
  have key : ∃ t p, value_Text.f (2 * s.size + 6000) (pH v) (pL v) w form = some t ∧ turnoutref01_Text.f (2 * s.size + 6000) (pH v) (pL v) w form = some t ∧ value_Parse.f (2 * s.size + 6000) s w = some p ∧ turnoutref01_Parse.f (2 * s.size + 6000) s w = some p := by
    by_cases hw : 1 ≤ w ∧ w ≤ 128
    · obtain ⟨n, rfl⟩ : ∃ n : Nat, w = n := ⟨w.toNat, by omega⟩
      exact ⟨_, _, own_Text v n (by omega) (by omega) hv form _ (by omega), ref_Text v n (by omega) (by omega) hv form _ (by omega), own_Parse s hs n (by omega) (by omega) _ (by omega), ref_Parse s hs n (by omega) (by omega) _ (by omega)⟩
    · obtain ⟨e, e1, e2⟩ := Text_no (pH v) (pL v) w form hw (2 * s.size + 5998)
      obtain ⟨p1, p2⟩ := Parse_no s w hw (2 * s.size + 6000)
      exact ⟨_, _, e1, e2, p1, p2⟩
  obtain ⟨⟨t, e⟩, ⟨x, y, f⟩, k1, k2, k3, k4⟩ := key
  rw [awake_texts _ (by omega), Option.bind_some, k1, Option.bind_some, k3, Option.bind_some, k2, Option.bind_some, k4, Option.bind_some]
  dsimp only
  rw [if_pos rfl, if_pos rfl, if_pos rfl, if_pos (by simp)]
  simp
end Go.Proofs.YtofnhgpiipmegaaDoor.PV
namespace Go.Proofs.YtofnhgpiipmegaaDoor.fnValueTexts
open Go.ChangeShapes Go.WideShapes Go.ChangeAt Go.RowKit Go.Proofs.YtofnhgpiipmegaaDoor.PV
theorem u9 : Tryd.prog.underlying 9 = some .string := by kernel_rfl
set_option maxRecDepth 100000 in
theorem contract (H : Type) (enc : TypeId × Value → H) (W : World) (base : Nat) (args : Array Value) (ds gs : List (DataW H)) (before : List MemPlace)
    (hval : ∀ (j : Nat) t v, Tryd.f3.params[j]? = some t → args[j]? = some v → Value.okWide Tryd.prog W .any base t v)
    (hW : DataW.Whole enc Tryd.prog Tryd.f3.params.toList Rows.valueTextsSpec.vars false W args.toList ds gs before) (hsz : (DataW.weightsEach Tryd.prog (Tryd.f3.params.toList ++ (OpenSpec.ofChange Rows.valueTextsSpec).bare.plain.varTypes Tryd.prog) (ds ++ gs)).all (· ≤ reachBytes) = true) (hL : laidMetH Tryd.prog Rows.valueTextsRow.laid W) :
    Calls Tryd.prog 3 args W fun e W' => ∃ v, e = .returned v ∧ Rows.valueTextsSpec.post enc Tryd.prog Tryd.f3 false true false false W args v W' := by
  have hW' := hW
  obtain ⟨p, q, hA0, hV, rfl, hfz, hnd⟩ := hW
  have hA : DataW.TrodAll enc Tryd.prog W 0 (fun _ => true) true Tryd.f3.params.toList args.toList ds p := hA0
  have hp : Tryd.f3.params = #[24, 3, 3, 9] := by kernel_rfl
  rw [hp] at hA hval
  obtain ⟨v0, vs0, d0, ds0, p0, q0, hargs, rfl, rfl, h0, r0⟩ := trodAll_cons hA
  obtain ⟨v1, vs1, d1, ds1, p1, q1, rfl, rfl, rfl, h1, r1⟩ := trodAll_cons r0
  obtain ⟨v2, vs2, d2, ds2, p2, q2, rfl, rfl, rfl, h2, r2⟩ := trodAll_cons r1
  obtain ⟨v3, vs3, d3, ds3, p3, q3, rfl, rfl, rfl, h3, r3⟩ := trodAll_cons r2
  obtain ⟨rfl, rfl, rfl⟩ := trodAll_nil r3
  obtain rfl : args = #[v0, v1, v2, v3] := by cases args; simp_all
  obtain ⟨rfl, rfl⟩ := trodVars_none hV
  obtain ⟨x0, y0, rfl, rfl, rfl, wx0, wy0⟩ := open_bits (hval 0 24 v0 rfl rfl) h0
  obtain ⟨n, rfl, rfl, rfl, wn⟩ := open_int u3 (hval 1 3 v1 rfl rfl) h1
  obtain ⟨m, rfl, rfl, rfl, wm⟩ := open_int u3 (hval 2 3 v2 rfl rfl) h2
  obtain ⟨s, rfl, rfl, rfl, ws⟩ := Go.ChangeMaps.open_string u9 (hval 3 9 v3 rfl rfl) h3
  have hs : s.size ≤ 140737488351232 := by
    have z := sized_string hsz (j := 3) (t := 9) (by rw [hp]; rfl) rfl
    rw [Array.length_toList] at z
    exact z
  clear hA0
  simp only [List.append_nil] at hW'
  obtain ⟨k, hk⟩ := ValueTexts_pure x0 y0 n m s (wf_inU wx0) (wf_inU wy0) hs
  refine (turnoutlaw01_ValueTexts.calls k x0 y0 n m s true W (globals_of hL) hk ⟨rfl⟩).mono fun e W' ⟨he, hb⟩ => ?_
  subst he
  refine ⟨_, rfl, post_of_below (pr := []) (pa := []) (pv := []) hW' ?_ ?_ ?_ (fun _ h => by cases h) hb⟩
  · exact trodAll_cons_mk (shut_bool u4 _) trodAll_mk0
  · exact trodAll_cons_mk (shut_bits wx0 wy0) (trodAll_cons_mk (shut_int u3 wn) (trodAll_cons_mk (shut_int u3 wm) (trodAll_cons_mk (Go.ChangeMaps.shut_string u9 ws) trodAll_mk0)))
  · rfl
theorem reads (os : Os) {H : Type} (enc : TypeId × Value → H) : ∃ places, DataW.whole enc Tryd.prog ((laidWorld os).forCall (fun _ _ => 0) ⟨#[], #[.agg #[.int .u64 0, .int .u64 0], .int .i64 0, .int .i64 0, .string ⟨#[]⟩], []⟩).memory Tryd.f3.params.toList Rows.valueTextsSpec.vars false #[Value.agg #[.int .u64 0, .int .u64 0], .int .i64 0, .int .i64 0, .string ⟨#[]⟩].toList 8 = some ([.agg [.lit (.int .u64 0), .lit (.int .u64 0)], .lit (.int .i64 0), .lit (.int .i64 0), .lit (.string [])], [], places) :=
  ⟨[], by kernel_rfl⟩
set_option maxRecDepth 100000 in
theorem lifted (os : Os) (started : os.Started) (H : Type) (enc : TypeId × Value → H) (F : Stop.Interp) :
    ReturnsInHanded {} Tryd.checked os 3 .any ((OpenSpec.ofChange Rows.valueTextsSpec).preRow enc Tryd.prog Tryd.f3 Rows.valueTextsRow.domain false Rows.valueTextsRow.laid) (((OpenSpec.ofChange Rows.valueTextsSpec).at F).post enc Tryd.prog Tryd.f3 false true false false) := by
  obtain ⟨places, hx⟩ := reads os enc
  refine returnsInHanded_of_row (C := Tryd.checked) (s := OpenSpec.ofChange Rows.valueTextsSpec) own started (by kernel_rfl) Tryd.func3
    (witness_zip (enc := enc) os #[.agg #[.int .u64 0, .int .u64 0], .int .i64 0, .int .i64 0, .string ⟨#[]⟩] (by kernel_rfl)
      (OpenSpec.preRow_of_cond 8 hx (by kernel_rfl) (fun k hk => by cases hk) (by kernel_rfl) (laid_metH os _))) ?_
  intro W base args ds gs before hval hW _ _ hsz hL _ _
  exact contract H enc W base args ds gs before hval hW hsz hL
theorem said : Rows.ValueTextsSaid :=
  OpenClaim.holds_of_cond 3 Tryd.f3 rfl rfl rfl rfl rfl rfl rfl ⟨rfl, rfl, rfl, rfl, rfl⟩ rfl rfl rfl rfl rfl (by kernel_rfl) Tryd.func3 (by kernel_rfl)
    (of_decide_eq_true (by kernel_rfl)) (by unfold Func.isWrapper; first | (rw [if_pos (by decide +kernel)]; kernel_rfl) | (rw [if_neg (by decide +kernel)]; exact ⟨rfl, rfl⟩))
    (fun os started H enc _ F => by rw [OpenClaim.pre_eq_preRow]; exact lifted os started H enc F)
theorem plain (f : FuncId) (fn : Func) (hf : Tryd.pinned.checked.prog.funcNamed "turnout/turnoutlaw01.ValueTexts" = some f) (hfn : Tryd.pinned.checked.prog.funcs[f]? = some fn) :
    false = Tryd.pinned.checked.prog.looks [] ∧ ∀ (j : Nat) t, fn.params[j]? = some t → Tryd.pinned.checked.prog.wantsStandIn t = false := by
  obtain rfl : f = 3 := Option.some.inj ((show Tryd.prog.funcNamed "turnout/turnoutlaw01.ValueTexts" = some 3 by kernel_rfl).symm.trans hf) |>.symm
  obtain rfl : fn = Tryd.f3 := (Option.some.inj (Tryd.func3.symm.trans hfn)).symm
  refine ⟨by kernel_rfl, fun j t ht => ?_⟩
  have hp : Tryd.f3.params = #[24, 3, 3, 9] := by kernel_rfl
  rw [hp] at ht
  have hm := Array.mem_of_getElem? ht
  simp only [List.mem_toArray, List.mem_cons, List.not_mem_nil, or_false] at hm
  rcases hm with rfl | rfl | rfl | rfl
  · exact (show Tryd.prog.wantsStandIn 24 = false by kernel_rfl)
  · exact (show Tryd.prog.wantsStandIn 3 = false by kernel_rfl)
  · exact (show Tryd.prog.wantsStandIn 3 = false by kernel_rfl)
  · exact (show Tryd.prog.wantsStandIn 9 = false by kernel_rfl)
/-- The card. -/
theorem card : Rows.ValueTextsCardSaid :=
  Claim7.holds_tied_plain_at .later [] _ _ _ _ said (fun _ h => by cases h) (by kernel_rfl) (fun _ h => by cases h) valueTexts_row_tie rfl ⟨rfl, rfl⟩ (by kernel_rfl) rfl plain (by kernel_rfl)
end Go.Proofs.YtofnhgpiipmegaaDoor.fnValueTexts
#print axioms Go.Proofs.YtofnhgpiipmegaaDoor.fnValueTexts.card
