/- ValueBack: the row and its card. -/
import Derived.Test.YtofnhgpiipmegaaDoorMAll
import Derived.Test.YtofnhgpiipmegaaDoorHAdd
import Derived.Test.YtofnhgpiipmegaaDoorHRefAll
import Derived.Test.YtofnhgpiipmegaaDoorHDigits
import Derived.Test.YtofnhgpiipmegaaDoorPVx0
import Derived.Test.YtofnhgpiipmegaaDoorPVx1
import Derived.Test.YtofnhgpiipmegaaDoorPVx5
import Derived.Test.YtofnhgpiipmegaaDoorHPiecesAll
import Derived.Test.YtofnhgpiipmegaaDoorPVx15
import Derived.Test.YtofnhgpiipmegaaDoorHText
import Derived.Test.YtofnhgpiipmegaaDoorT16
import Derived.Test.YtofnhgpiipmegaaDoorT17
import Derived.Test.YtofnhgpiipmegaaDoorHLaid
import Derived.SizedLaws
import Derived.ChangeMaps5
namespace Go.Proofs.YtofnhgpiipmegaaDoor.PV
open Go.RowKit Go.Proofs.YtofnhgpiipmegaaDoorW.PrintWords Go.Proofs.YtofnhgpiipmegaaDoorW.PrintLast Go.Proofs.YtofnhgpiipmegaaDoorW.PrintMore
set_option linter.unusedVariables false
set_option linter.unusedSimpArgs false
/-- The digits' bytes. -/
def dgB (b v : Nat) : ByteArray := ⟨((dgs b 128 v []).map signN).toArray⟩
theorem own_digits (b v : Nat) (hb : b = 2 ∨ b = 10 ∨ b = 16) (hv : v < 2 ^ 128) : value_digits.f (pH v) (pL v) b = some (dgB b v) := by
  unfold value_digits.f dgB
  have e : (pH v * 18446744073709551616 + pL v).toNat = v := by
    have := V_p hv
    unfold V at this
    rw [two64] at this
    have h1 := inU_lo (pH_in hv); have h2 := inU_lo (pL_in v)
    omega
  rw [if_pos ⟨pH_in hv, pL_in v, by omega⟩, e, Int.toNat_natCast]
end Go.Proofs.YtofnhgpiipmegaaDoor.PV
namespace Go.Proofs.YtofnhgpiipmegaaDoor.PV
open Go.RowKit Go.Proofs.YtofnhgpiipmegaaDoorW.PrintWords Go.Proofs.YtofnhgpiipmegaaDoorW.PrintLast Go.Proofs.YtofnhgpiipmegaaDoorW.PrintMore
set_option linter.unusedVariables false
set_option linter.unusedSimpArgs false
/-- What a byte is worth as a digit (99: none). -/
def wN (c : UInt8) : Nat := (worthI c.toNat).toNat
theorem wN_eq (c : UInt8) : worthI c.toNat = (wN c : Int) := by
  have := worth_bd (c.toNat : Int)
  unfold wN; omega
def numT (b : Nat) : List UInt8 → Nat → Option Nat
  | [], v => some v
  | c :: r, v => if wN c < b then numT b r (v * b + wN c) else none
def numV (b : Nat) : List UInt8 → Option Nat
  | [] => none
  | [c] => numT b [c] 0
  | c :: d :: r => if c = 48 then none else numT b (c :: d :: r) 0
def resN : Option Nat → Int × Int × Bool × Bool
  | none => (0, 0, false, false)
  | some v => (pH (v % 2 ^ 128), pL (v % 2 ^ 128), decide (v < 2 ^ 128), true)
theorem num_step (A b n : Nat) (hA : A < 2 ^ 128) (hb : 2 ≤ b) (hb2 : b ≤ 16) (hn : n < 100) :
    nLo (pL A) n b = pL ((A * b + n) % 2 ^ 128) ∧ nHi (pH A) (pL A) n b = pH ((A * b + n) % 2 ^ 128) ∧ (∀ f, nF f (pH A) (pL A) n b = (f && decide (A * b + n < 2 ^ 128))) := by
  obtain ⟨h, hh⟩ : ∃ h, A / 2 ^ 64 = h := ⟨_, rfl⟩
  obtain ⟨l, hl⟩ : ∃ l, A % 2 ^ 64 = l := ⟨_, rfl⟩
  have hA2 : A = 2 ^ 64 * h + l := by rw [← hh, ← hl]; exact (Nat.div_add_mod A (2 ^ 64)).symm
  have e1 : pH A = (h : Int) := by unfold pH; rw [hh]
  have e2 : pL A = (l : Int) := by unfold pL; rw [hl]
  have hl2 : l < 2 ^ 64 := by rw [← hl]; exact Nat.mod_lt _ (Nat.two_pow_pos 64)
  have eM : A * b + n = 2 ^ 64 * (h * b) + (l * b + n) := by rw [hA2, Nat.add_mul, Nat.mul_assoc]; omega
  have ch : (h : Int) * (b : Int) = ((h * b : Nat) : Int) := by simp
  have cl : (l : Int) * (b : Int) = ((l * b : Nat) : Int) := by simp
  have bl1 : l * b ≤ l * 16 := Nat.mul_le_mul_left _ hb2
  rw [e1, e2, eM]
  unfold nHi nF nBy nCy nLo mulHi mulLo addHi addCz pH pL
  rw [ch, cl]
  rw [two64] at *
  rw [two128] at *
  generalize h * b = p
  generalize hq : l * b = q at *
  refine ⟨by omega, by omega, fun f => ?_⟩
  cases f
  · rfl
  · rw [Bool.true_and, Bool.true_and, Bool.eq_iff_iff]
    simp only [Bool.and_eq_true, beq_iff_eq, decide_eq_true_eq]
    omega
theorem numGo_eq (b : Nat) (hb : 2 ≤ b) (hb2 : b ≤ 16) : ∀ (l : List UInt8) (v : Nat), numGo b l (pH (v % 2 ^ 128)) (pL (v % 2 ^ 128)) (decide (v < 2 ^ 128)) = resN (numT b l v)
  | [], v => rfl
  | c :: r, v => by
    simp only [numGo, numT]
    rw [wN_eq]
    by_cases h : wN c < b
    · rw [if_neg (by omega), if_pos h]
      have hm := Nat.mod_lt v (Nat.two_pow_pos 128)
      obtain ⟨s1, s2, s3⟩ := num_step (v % 2 ^ 128) b (wN c) hm hb hb2 (by omega)
      rw [s1, s2, s3, ← numGo_eq b hb hb2 r (v * b + wN c)]
      have e : (v % 2 ^ 128 * b + wN c) % 2 ^ 128 = (v * b + wN c) % 2 ^ 128 := by rw [Nat.add_mod, Nat.mod_mul_mod, ← Nat.add_mod]
      rw [e]
      congr 1
      rw [Bool.eq_iff_iff]
      simp only [Bool.and_eq_true, decide_eq_true_eq]
      constructor
      · rintro ⟨h1, h2⟩; rwa [Nat.mod_eq_of_lt h1] at h2
      · intro h2
        have h1 : v < 2 ^ 128 := by
          have : v * 1 ≤ v * b := Nat.mul_le_mul_left _ (by omega)
          omega
        exact ⟨h1, by rwa [Nat.mod_eq_of_lt h1]⟩
    · rw [if_pos (by omega), if_neg h]; rfl
theorem numAll_eq (b : Nat) (hb : 2 ≤ b) (hb2 : b ≤ 16) (l : List UInt8) : numAll b l = resN (numV b l) := by
  have z : ∀ l, numGo b l 0 0 true = resN (numT b l 0) := fun l => numGo_eq b hb hb2 l 0
  match l with
  | [] => rfl
  | [c] => exact z [c]
  | c :: d :: r =>
    simp only [numAll, numV]
    split
    · rfl
    · exact z _
theorem own_number (b : Nat) (hb : 2 ≤ b) (hb2 : b ≤ 16) (s : ByteArray) (hs : s.size ≤ 140737488351232) : value_number.f s b = some (resN (numV b s.data.toList)) := by
  unfold value_number.f; rw [if_pos ⟨hs, by omega, by omega⟩, numAll_eq b hb hb2]
theorem bt_drop (s : ByteArray) (i : Nat) (h : i < s.size) : ∃ c r, s.data.toList.drop i = c :: r ∧ s.data.toList.drop (i + 1) = r ∧ bt s i = (c.toNat : Int) := by
  refine ⟨s[i]'h, s.data.toList.drop (i + 1), drop_consA s i h, rfl, ?_⟩
  have := bt_at s i (by simpa using h)
  rw [← this]; rfl
end Go.Proofs.YtofnhgpiipmegaaDoor.PV
namespace Go.Proofs.YtofnhgpiipmegaaDoor.PV
open Go.RowKit Go.Proofs.YtofnhgpiipmegaaDoorW.PrintWords Go.Proofs.YtofnhgpiipmegaaDoorW.PrintLast Go.Proofs.YtofnhgpiipmegaaDoorW.PrintMore
set_option linter.unusedVariables false
set_option linter.unusedSimpArgs false
theorem cutAt_self (c : UInt8) : ∀ a : List UInt8, c ∉ a → cutAt c a = [a]
  | [], _ => rfl
  | x :: r, h => by
    rw [cutAt_cons, if_neg (fun e => h (by simp [e])), cutAt_self c r (fun e => h (by simp [e]))]
theorem cutAt_app (c : UInt8) : ∀ a r : List UInt8, c ∉ a → cutAt c (a ++ c :: r) = a :: cutAt c r
  | [], r, _ => by rw [List.nil_append, cutAt_cons, if_pos rfl]
  | x :: a, r, h => by
    rw [List.cons_append, cutAt_cons, if_neg (fun e => h (by simp [e])), cutAt_app c a r (fun e => h (by simp [e]))]
def decV (p : ByteArray) : Option Nat :=
  match numV 10 p.data.toList with
  | none => none
  | some v => if v ≤ 255 then some v else none
def hexV (p : ByteArray) : Option Nat :=
  match p.data.toList with
  | [x, y] => if wN x < 16 ∧ wN y < 16 then some (16 * wN x + wN y) else none
  | _ => none
def allM (g : ByteArray → Option Nat) : List ByteArray → Option (List Int)
  | [] => some []
  | p :: ps => match g p with
    | none => none
    | some v => match allM g ps with
      | none => none
      | some l => some ((v : Int) :: l)
theorem allM_len (g : ByteArray → Option Nat) : ∀ (ps : List ByteArray) (l : List Int), allM g ps = some l → l.length = ps.length
  | [], l, h => by simp [allM] at h; subst h; rfl
  | p :: ps, l, h => by
    simp only [allM] at h
    cases hg : g p with
    | none => rw [hg] at h; cases h
    | some v =>
      rw [hg] at h
      cases hm : allM g ps with
      | none => rw [hm] at h; cases h
      | some l' => rw [hm] at h; cases h; simp [allM_len g ps l' hm]
theorem numT_bd (b : Nat) : ∀ (l : List UInt8) (v w : Nat), numT b l v = some w → v * b ^ l.length ≤ w ∧ w < (v + 1) * b ^ l.length
  | [], v, w, h => by simp [numT] at h; subst h; simp
  | c :: r, v, w, h => by
    simp only [numT] at h
    split at h
    · rename_i hc
      obtain ⟨h1, h2⟩ := numT_bd b r _ w h
      rw [List.length_cons, Nat.pow_succ, Nat.mul_comm (b ^ r.length) b, ← Nat.mul_assoc, ← Nat.mul_assoc]
      constructor
      · exact Nat.le_trans (Nat.mul_le_mul_right _ (Nat.le_add_right _ _)) h1
      · refine Nat.lt_of_lt_of_le h2 (Nat.mul_le_mul_right _ ?_)
        rw [Nat.succ_mul]; omega
    · cases h
theorem wN_zero : ∀ c : UInt8, wN c = 0 → c = 48 := by
  have : ∀ n < 256, wN (UInt8.ofNat n) = 0 → UInt8.ofNat n = 48 := by decide +kernel
  intro c h
  have e : UInt8.ofNat c.toNat = c := by simp
  have := this c.toNat (UInt8.toNat_lt c)
  rw [e] at this
  exact this h
theorem numV_short (l : List UInt8) (v : Nat) (h : numV 10 l = some v) (h3 : l.length ≤ 3) : v < 1000 := by
  cases l with
  | nil => cases h
  | cons c r =>
    have hh : numT 10 (c :: r) 0 = some v := by
      cases r with
      | nil => exact h
      | cons d r =>
        simp only [numV] at h
        split at h
        · cases h
        · exact h
    have := (numT_bd 10 _ _ _ hh).2
    rw [Nat.zero_add, Nat.one_mul] at this
    exact Nat.lt_of_lt_of_le this (Nat.pow_le_pow_right (by decide) h3)
theorem numV_long (l : List UInt8) (v : Nat) (h : numV 10 l = some v) (h3 : 4 ≤ l.length) : 1000 ≤ v := by
  match l, h3 with
  | c :: d :: r, h3 =>
    simp only [numV] at h
    split at h
    · cases h
    · rename_i h48
      simp only [numT] at h
      split at h
      · rename_i hc
        have hc0 : wN c ≠ 0 := fun e => h48 (wN_zero c e)
        split at h
        · have h1 := (numT_bd 10 _ _ _ h).1
          have hr : 2 ≤ r.length := by simp at h3; omega
          have hp : 10 ^ 2 ≤ 10 ^ r.length := Nat.pow_le_pow_right (by decide) hr
          have h2 : 10 * 10 ^ r.length ≤ v := Nat.le_trans (Nat.mul_le_mul_right _ (by omega)) h1
          omega
        · cases h
      · cases h
theorem pn_dec (p : ByteArray) (hp : p.size ≤ 140737488351232) : pieceNum 10 p = Option.map (fun v : Nat => ((256 * 0 + v : Nat) : Int)) (decV p) := by
  have hl := data_length p
  have e := numAll_eq 10 (by decide) (by decide) p.data.toList
  unfold decV
  cases hv : numV 10 p.data.toList with
  | none =>
    rw [hv] at e
    rw [pn10 e, if_pos (.inl rfl)]; rfl
  | some v =>
    rw [hv] at e
    rw [pn10 e]
    dsimp only
    by_cases h3 : p.size ≤ 3
    · have hb := numV_short _ v hv (by omega)
      have e : pL (v % 2 ^ 128) = (v : Int) := by unfold pL; rw [two128, two64]; omega
      rw [e]
      by_cases h255 : v ≤ 255
      · rw [if_neg (by simp; omega), if_pos h255]; simp
      · rw [if_pos (by simp; omega), if_neg h255]; rfl
    · have hb := numV_long _ v hv (by omega)
      have h255 : ¬ v ≤ 255 := by omega
      rw [if_pos (Or.inr (Or.inl (by omega))), if_neg h255]; rfl
theorem pn_hex (p : ByteArray) (hp : p.size ≤ 140737488351232) : pieceNum 16 p = Option.map (fun v : Nat => ((256 * 1 + v : Nat) : Int)) (hexV p) := by
  have hl := data_length p
  by_cases h2 : p.size = 2
  · match hd : p.data.toList, hl with
    | [x, y], _ =>
      have hq : ((⟨#[49]⟩ : ByteArray) ++ p).data.toList = [49, x, y] := by
        rw [ByteArray.data_append]; simp [hd]
      have e : numAll ((16 : Nat) : Int) ((⟨#[49]⟩ : ByteArray) ++ p).data.toList = resN (numV 16 [49, x, y]) := by rw [hq, numAll_eq 16 (by decide) (by decide)]
      have w49 : wN 49 = 1 := by decide
      simp only [hexV, hd]
      by_cases hx : wN x < 16
      · by_cases hy : wN y < 16
        · have hn : numV 16 [49, x, y] = some ((1 * 16 + wN x) * 16 + wN y) := by
            simp only [numV, numT, w49]
            rw [if_neg (by decide), if_pos (by decide), if_pos hx, if_pos hy]
          rw [hn] at e
          simp only [resN] at e
          rw [pn16 h2 e, if_neg (by decide), if_pos ⟨hx, hy⟩]
          have ee : pL (((1 * 16 + wN x) * 16 + wN y) % 2 ^ 128) = ((256 * 1 + (16 * wN x + wN y) : Nat) : Int) := by
            unfold pL; rw [two128, two64]; omega
          rw [ee]; rfl
        · have hn : numV 16 [49, x, y] = none := by
            simp only [numV, numT, w49]
            rw [if_neg (by decide), if_pos (by decide), if_pos hx, if_neg hy]
          rw [hn] at e
          rw [pn16 h2 e, if_pos rfl, if_neg (fun h => hy h.2)]; rfl
      · have hn : numV 16 [49, x, y] = none := by
          simp only [numV, numT, w49]
          rw [if_neg (by decide), if_pos (by decide), if_neg hx]
        rw [hn] at e
        rw [pn16 h2 e, if_pos rfl, if_neg (fun h => hx h.1)]; rfl
    | [], h => rw [hd] at hl; simp at hl; omega
    | [_], h => rw [hd] at hl; simp at hl; omega
    | _ :: _ :: _ :: _, h => rw [hd] at hl; simp at hl; omega
  · rw [pn16_no h2]
    match hd : p.data.toList with
    | [x, y] => rw [hd] at hl; exact absurd hl.symm h2
    | [] => simp [hexV, hd]
    | [_] => simp [hexV, hd]
    | _ :: _ :: _ :: _ => simp [hexV, hd]
/-- All pieces are numbers, and there are so many. -/
def okP (g : ByteArray → Option Nat) (m : Nat) (ps : List ByteArray) : Option (List Int) := if ps.length = m then allM g ps else none
theorem pFold_all (b : Int) (m : Nat) (g : ByteArray → Option Nat) (q : Nat) : ∀ (ps : List ByteArray) (acc : List Int), (∀ p ∈ ps, pieceNum b p = Option.map (fun v : Nat => ((256 * q + v : Nat) : Int)) (g p)) → (∀ p ∈ ps, ∀ v, g p = some v → v < 256) → acc.length ≤ m →
    pFold b m ps acc = if ps.length + acc.length ≤ m then (allM g ps).map (acc ++ ·) else none
  | [], acc, _, _, hm => by simp [pFold, allM, hm]
  | p :: ps, acc, h1, h2, hm => by
    simp only [pFold, allM]
    rw [h1 p List.mem_cons_self]
    cases hg : g p with
    | none => simp
    | some v =>
      have hv := h2 p List.mem_cons_self v hg
      simp only [Option.map_some]
      have ev : ((256 * q + v : Nat) : Int) % 256 = (v : Int) := by omega
      rw [ev]
      by_cases hl : acc.length = m
      · rw [if_pos (by omega), if_neg (by rw [List.length_cons]; omega)]
      · rw [if_neg (by omega), pFold_all b m g q ps (acc ++ [(v : Int)]) (fun p hp => h1 p (List.mem_cons_of_mem _ hp)) (fun p hp => h2 p (List.mem_cons_of_mem _ hp)) (by rw [List.length_append]; simp; omega)]
        have el : ps.length + (acc ++ [(v : Int)]).length = (p :: ps).length + acc.length := by simp; omega
        rw [el]
        split
        · cases allM g ps <;> simp
        · rfl
theorem decV_lt (p : ByteArray) (v : Nat) (h : decV p = some v) : v < 256 := by
  unfold decV at h
  split at h
  · cases h
  · split at h
    · cases h; omega
    · cases h
theorem hexV_lt (p : ByteArray) (v : Nat) (h : hexV p = some v) : v < 256 := by
  unfold hexV at h
  split at h
  · split at h
    · cases h; omega
    · cases h
  · cases h
theorem mem_piece_le {c : UInt8} {s x : ByteArray} (h : x ∈ piecesB c s) : x.size ≤ s.size := by
  obtain ⟨l, hl, rfl⟩ := List.mem_map.1 h
  have := cutAt_le c _ l hl
  rw [data_length] at this
  exact this
theorem own_pieces (c : UInt8) (s : ByteArray) (hs : s.size ≤ 140737488351232) (b : Int) (m : Nat) (hm : m ≤ 16) (g : ByteArray → Option Nat) (q : Nat) (hb : b = 10 ∨ b = 16) (h1 : ∀ p : ByteArray, p.size ≤ 140737488351232 → pieceNum b p = Option.map (fun v : Nat => ((256 * q + v : Nat) : Int)) (g p)) (h2 : ∀ p v, g p = some v → v < 256) :
    ∃ x y, value_pieces.f s ⟨#[c]⟩ b m = some (x, y) ∧ (match okP g m (piecesB c s) with | some l => y = true ∧ x = strOfNums l | none => y = false) := by
  have hf := pFold_all b m g q (piecesB c s) [] (fun p hp => h1 p (Nat.le_trans (mem_piece_le hp) hs)) (fun p _ => h2 p) (Nat.zero_le _)
  have e : value_pieces.f s ⟨#[c]⟩ b m = some (pRes c s b m) := by
    unfold value_pieces.f pRes
    simp only
    rw [if_pos ⟨hs, hb, by omega, by omega⟩]
    cases pFold b m (piecesB c s) [] <;> rfl
  refine ⟨_, _, e, ?_⟩
  simp only [pRes, okP]
  rw [hf]
  simp only [List.length_nil, Nat.add_zero]
  by_cases hl : (piecesB c s).length = m
  · rw [if_pos hl, if_pos (by omega)]
    cases ha : allM g (piecesB c s) with
    | none => rfl
    | some l =>
      have := allM_len g _ _ ha
      simp only [Option.map_some, List.nil_append]
      exact ⟨decide_eq_true (by omega), trivial⟩
  · rw [if_neg hl]
    by_cases hle : (piecesB c s).length ≤ m
    · rw [if_pos hle]
      cases ha : allM g (piecesB c s) with
      | none => rfl
      | some l =>
        have := allM_len g _ _ ha
        exact decide_eq_false (by simp; omega)
    · rw [if_neg hle]
end Go.Proofs.YtofnhgpiipmegaaDoor.PV
namespace Go.Proofs.YtofnhgpiipmegaaDoor.PV
open Go.RowKit Go.Proofs.YtofnhgpiipmegaaDoorW.PrintWords Go.Proofs.YtofnhgpiipmegaaDoorW.PrintLast Go.Proofs.YtofnhgpiipmegaaDoorW.PrintMore
set_option linter.unusedVariables false
set_option linter.unusedSimpArgs false
theorem hexV_two {p : ByteArray} {x y : UInt8} (hp : p.data.toList = [x, y]) : hexV p = if wN x < 16 ∧ wN y < 16 then some (16 * wN x + wN y) else none := by simp only [hexV, hp]
end Go.Proofs.YtofnhgpiipmegaaDoor.PV
namespace Go.Proofs.YtofnhgpiipmegaaDoor.PV
open Go.RowKit Go.Proofs.YtofnhgpiipmegaaDoorW.PrintWords Go.Proofs.YtofnhgpiipmegaaDoorW.PrintLast Go.Proofs.YtofnhgpiipmegaaDoorW.PrintMore
set_option linter.unusedVariables false
set_option linter.unusedSimpArgs false
theorem tdiv_nat (n : Nat) (h : n ≤ 1000) : wrap64 (Int.tdiv (n : Int) 8) = ((n / 8 : Nat) : Int) := by
  rw [show (8 : Int) = ((8 : Nat) : Int) from rfl, ← Int.ofNat_tdiv, wrap64_small (by omega) (by omega)]
theorem tmod_nat (n : Nat) : Int.tmod (n : Int) 8 = ((n % 8 : Nat) : Int) := by
  rw [show (8 : Int) = ((8 : Nat) : Int) from rfl, ← Int.ofNat_tmod]
theorem ownHas5 (n : Nat) (n1 : 1 ≤ n) (n2 : n ≤ 128) : value_has.f n 5 = some (decide (n % 8 = 0 ∧ 9 ≤ n)) := by
  unfold value_has.f
  rw [if_neg (by decide), if_pos rfl, isWidth_yes (by omega), Option.bind_some, if_pos rfl, tmod_nat]
  by_cases h : 16 ≤ n
  · rw [if_pos (by omega)]; congr 1; rw [Bool.eq_iff_iff]; simp only [decide_eq_true_eq, beq_iff_eq]; omega
  · rw [if_neg (by omega), decide_eq_false (by omega)]
/-- The bytes that a text of Dots or Colons says. -/
def bytesR (s : ByteArray) (n : Nat) : Option (List Int) :=
  if n = 32 ∧ (piecesB 46 s).length = 4 then allM decV (piecesB 46 s)
  else if n % 8 = 0 ∧ 9 ≤ n then okP hexV (n / 8) (piecesB 58 s) else none
def beV : List UInt8 → Nat → Nat
  | [], v => v
  | c :: r, v => beV r (v * 256 + c.toNat)
def FromR (b : ByteArray) (n : Nat) : Int × Int × Int :=
  if b.size = (n + 7) / 8 then (if beV b.data.toList 0 < 2 ^ n then (pH (beV b.data.toList 0), pL (beV b.data.toList 0), 0) else (0, 0, 11)) else (0, 0, 12)
theorem left8 (v : Nat) (hv : v < 2 ^ 120) : value_left.f (pH v) (pL v) 8 = some (pH (v * 256), pL (v * 256)) := by
  have hA : v < 2 ^ 128 := Nat.lt_of_lt_of_le hv (Nat.pow_le_pow_right (by decide) (by decide))
  have h := left_f (pH v) (pL v) (pH_in hA) (pL_in v) 8 (by decide)
  have e : (v <<< 8) % 2 ^ 128 = v * 256 := by
    rw [Nat.shiftLeft_eq, show (2 : Nat) ^ 8 = 256 from rfl, Nat.mod_eq_of_lt]
    have : (2 : Nat) ^ 128 = 2 ^ 120 * 256 := by decide
    omega
  rw [V_p hA, e] at h
  exact h
theorem or_byte (v c : Nat) (hc : c < 256) : Go.bits .or .u64 (pL (v * 256)) (IntKind.u64.wrap (c : Int)) = pL (v * 256 + c) ∧ pH (v * 256) = pH (v * 256 + c) := by
  have e1 : IntKind.u64.wrap (c : Int) = ((c : Nat) : Int) := by rw [wrapU_eq]; omega
  have e2 : (v * 256) % 2 ^ 64 = 2 ^ 8 * (v % 2 ^ 56) := by rw [two64, show (2 : Nat) ^ 56 = 72057594037927936 from by decide, show (2 : Nat) ^ 8 = 256 from rfl]; omega
  constructor
  · unfold pL
    rw [e1, or_n _ _ (Nat.mod_lt _ (Nat.two_pow_pos 64)) (by rw [two64]; omega), e2, ← Nat.two_pow_add_eq_or_of_lt (by omega)]
    rw [two64, show (2 : Nat) ^ 56 = 72057594037927936 from by decide, show (2 : Nat) ^ 8 = 256 from rfl]
    omega
  · unfold pH; rw [two64]; omega
theorem own_From_go (b : ByteArray) (n : Nat) (n1 : 1 ≤ n) (n2 : n ≤ 128) (hb : b.size ≤ 16) : ∀ (d i v k : Nat), i + d = b.size → v < 2 ^ (8 * i) → d < k →
    value_From.l0 k b n (b.size : Int) i (pH v) (pL v) = some (if beV (b.data.toList.drop i) v < 2 ^ n then (pH (beV (b.data.toList.drop i) v), pL (beV (b.data.toList.drop i) v), 0) else (0, 0, 11)) := by
  intro d
  induction d with
  | zero =>
    intro i v k hd hv hk
    obtain ⟨k, rfl⟩ : ∃ j, k = j + 1 := ⟨k - 1, by omega⟩
    have hA : v < 2 ^ 128 := Nat.lt_of_lt_of_le hv (Nat.pow_le_pow_right (by decide) (by omega))
    simp only [value_From.l0]
    rw [if_neg (by omega), Fits_f _ _ (pH_in hA) (pL_in v) n n1 n2, V_p hA, Option.bind_some, List.drop_eq_nil_of_le (by rw [data_length]; omega)]
    rw [show beV [] v = v from rfl]
    by_cases h : v < 2 ^ n
    · rw [if_pos (decide_eq_true h), if_pos h]
    · rw [if_neg (by simp [h]), if_neg h]
  | succ d ih =>
    intro i v k hd hv hk
    obtain ⟨k, rfl⟩ : ∃ j, k = j + 1 := ⟨k - 1, by omega⟩
    obtain ⟨c, r, h1, h2, h3⟩ := bt_drop b i (by omega)
    have hv120 : v < 2 ^ 120 := Nat.lt_of_lt_of_le hv (Nat.pow_le_pow_right (by decide) (by omega))
    have hc := UInt8.toNat_lt c
    obtain ⟨o1, o2⟩ := or_byte v c.toNat hc
    simp only [value_From.l0]
    rw [if_pos (by omega), left8 v hv120, Option.bind_some, if_pos (by omega), if_pos (by omega), h3]
    dsimp only
    have e : wrap64 ((i : Int) + 1) = ((i + 1 : Nat) : Int) := by unfold wrap64; omega
    rw [o1, o2, e, ih (i + 1) (v * 256 + c.toNat) k (by omega) (by
      rw [show 8 * (i + 1) = 8 * i + 8 from by omega, Nat.pow_add, show (2 : Nat) ^ 8 = 256 from rfl]; omega) (by omega), h1, h2]
    rfl
theorem long_nat (n : Nat) (h : n ≤ 128) : wrap64 (Int.tdiv (wrap64 ((n : Int) + 7)) 8) = (((n + 7) / 8 : Nat) : Int) := by
  rw [wrap64_small (x := (n : Int) + 7) (by omega) (by omega), show ((n : Int) + 7) = ((n + 7 : Nat) : Int) from by omega, tdiv_nat _ (by omega)]
theorem own_From (b : ByteArray) (n : Nat) (n1 : 1 ≤ n) (n2 : n ≤ 128) (k : Nat) (hk : 20 ≤ k) : value_From.f k b n = some (FromR b n) := by
  unfold value_From.f FromR
  rw [isWidth_yes (by omega), Option.bind_some, if_pos rfl, long_nat n n2]
  by_cases hb : b.size = (n + 7) / 8
  · rw [if_pos (by omega), if_pos hb]
    have := own_From_go b n n1 n2 (by omega) b.size 0 0 k (by omega) (by simp) (by omega)
    rw [List.drop_zero] at this
    exact this
  · rw [if_neg (by omega), if_neg hb]
def baseOf (s : ByteArray) : Nat × ByteArray :=
  match s.data.toList with
  | x :: y :: _ => if x = 48 ∧ y = 120 then (16, s.extract 2 s.size) else if x = 48 ∧ y = 98 then (2, s.extract 2 s.size) else (10, s)
  | _ => (10, s)
def ParseR (s : ByteArray) (n : Nat) : Int × Int × Int :=
  match numV (baseOf s).1 (baseOf s).2.data.toList with
  | some v => if v < 2 ^ n then (pH v, pL v, 0) else (0, 0, 11)
  | none => match bytesR s n with
    | none => (0, 0, 12)
    | some l => FromR (strOfNums l) n
theorem baseOf_ok (s : ByteArray) : ((baseOf s).1 = 2 ∨ (baseOf s).1 = 10 ∨ (baseOf s).1 = 16) ∧ (baseOf s).2.size ≤ s.size := by
  unfold baseOf
  split
  · split
    · exact ⟨by simp, by simp [ByteArray.size_extract]⟩
    · split
      · exact ⟨by simp, by simp [ByteArray.size_extract]⟩
      · exact ⟨by simp, Nat.le_refl _⟩
  · exact ⟨by simp, Nat.le_refl _⟩
theorem cutPrefix2 (s : ByteArray) (p q : UInt8) : strings_CutPrefix.f s ⟨#[p, q]⟩ = some (match s.data.toList with
    | x :: y :: _ => if x = p ∧ y = q then (s.extract 2 s.size, true) else (s, false)
    | _ => (s, false)) := by
  have hl := data_length s
  have e2 : ((⟨#[p, q]⟩ : ByteArray).size : Int) = 2 := rfl
  unfold strings_CutPrefix.f stringslite_CutPrefix.f stringslite_HasPrefix.f
  rw [e2]
  match hd : s.data.toList, hl with
  | [], hl =>
    have h0 : s.size = 0 := by simpa using hl.symm
    rw [if_neg (by omega)]; rfl
  | [_], hl =>
    have h0 : s.size = 1 := by simpa using hl.symm
    rw [if_neg (by omega)]; rfl
  | x :: y :: r, hl =>
    have h2 : 2 ≤ s.size := by simp at hl; omega
    rw [if_pos (by omega), if_pos (by decide), if_pos (by omega)]
    have e : (s.extract 0 ((2 : Int)).toNat).toList = [x, y] := by
      rw [bytes_eq, Lib.extract_data, hd]; rfl
    have e3 : (⟨#[p, q]⟩ : ByteArray).toList = [p, q] := by rw [bytes_eq]
    rw [Option.bind_some, e, e3]
    dsimp only
    by_cases h : x = p ∧ y = q
    · obtain ⟨rfl, rfl⟩ := h
      rw [if_pos (by simp), if_pos (by decide), if_pos (by omega), if_pos ⟨rfl, rfl⟩]; rfl
    · rw [if_neg (by simp; exact fun a b => h ⟨a, b⟩), if_neg h]; rfl
theorem cut_yes {s : ByteArray} {p q : UInt8} {r : List UInt8} (h : s.data.toList = p :: q :: r) : strings_CutPrefix.f s ⟨#[p, q]⟩ = some (s.extract 2 s.size, true) := by
  rw [cutPrefix2, h]; dsimp only; rw [if_pos ⟨rfl, rfl⟩]
theorem cut_no {s : ByteArray} {p q : UInt8} (h : ∀ r, s.data.toList ≠ p :: q :: r) : strings_CutPrefix.f s ⟨#[p, q]⟩ = some (s, false) := by
  rw [cutPrefix2]
  split
  · rename_i x y r hd
    rw [if_neg (by rintro ⟨rfl, rfl⟩; exact h r hd)]
  · rfl
theorem base_x {s : ByteArray} {r : List UInt8} (h : s.data.toList = 48 :: 120 :: r) : baseOf s = (16, s.extract 2 s.size) := by
  unfold baseOf; rw [h]; rfl
theorem base_b {s : ByteArray} {r : List UInt8} (h : s.data.toList = 48 :: 98 :: r) : baseOf s = (2, s.extract 2 s.size) := by
  unfold baseOf; rw [h]; rfl
theorem base_no {s : ByteArray} (h1 : ∀ r, s.data.toList ≠ 48 :: 120 :: r) (h2 : ∀ r, s.data.toList ≠ 48 :: 98 :: r) : baseOf s = (10, s) := by
  unfold baseOf
  split
  · rename_i x y r hd
    rw [if_neg (by rintro ⟨rfl, rfl⟩; exact h1 r hd), if_neg (by rintro ⟨rfl, rfl⟩; exact h2 r hd)]
  · rfl
/-- The program's road: Dots first, then Colons. -/
def bytesP (s : ByteArray) (n : Nat) : Option (List Int) :=
  match (if n = 32 then okP decV 4 (piecesB 46 s) else none) with
  | some l => some l
  | none => if n % 8 = 0 ∧ 9 ≤ n then okP hexV (n / 8) (piecesB 58 s) else none
theorem own_j2 (s : ByteArray) (hs : s.size ≤ 140737488351232) (n : Nat) (n1 : 1 ≤ n) (n2 : n ≤ 128) (k : Nat) (hk : 30 ≤ k) :
    value_Parse.j2 k s n = some (match (if n % 8 = 0 ∧ 9 ≤ n then okP hexV (n / 8) (piecesB 58 s) else none) with
      | none => (0, 0, 12)
      | some l => FromR (strOfNums l) n) := by
  obtain ⟨k, rfl⟩ : ∃ j, k = j + 1 := ⟨k - 1, by omega⟩
  simp only [value_Parse.j2]
  rw [ownHas5 n n1 n2, Option.bind_some, tdiv_nat n (by omega)]
  by_cases h5 : n % 8 = 0 ∧ 9 ≤ n
  · rw [if_pos (decide_eq_true h5), if_pos h5]
    obtain ⟨x, y, h1, h2⟩ := own_pieces 58 s hs 16 (n / 8) (by omega) hexV 1 (.inr rfl) pn_hex hexV_lt
    rw [h1, Option.bind_some]
    dsimp only
    cases ho : okP hexV (n / 8) (piecesB 58 s) with
    | none =>
      rw [ho] at h2
      dsimp only at h2
      rw [h2, if_neg (by decide)]
    | some l =>
      rw [ho] at h2
      obtain ⟨rfl, rfl⟩ := h2
      rw [if_pos rfl, own_From _ n n1 n2 k (by omega), Option.bind_some]
  · rw [if_neg (by simp [h5]), if_neg h5]
theorem own_tail (s : ByteArray) (hs : s.size ≤ 140737488351232) (n : Nat) (n1 : 1 ≤ n) (n2 : n ≤ 128) (b : Nat) (t : ByteArray) (hb : b = 2 ∨ b = 10 ∨ b = 16) (ht : t.size ≤ s.size) (k : Nat) (hk : 60 ≤ k) :
    value_Parse.j0 k s n t b = some (match numV b t.data.toList with
      | some v => if v < 2 ^ n then (pH v, pL v, 0) else (0, 0, 11)
      | none => match bytesP s n with
        | none => (0, 0, 12)
        | some l => FromR (strOfNums l) n) := by
  obtain ⟨k, rfl⟩ : ∃ j, k = j + 2 := ⟨k - 2, by omega⟩
  simp only [value_Parse.j0]
  rw [own_number b (by omega) (by omega) t (by omega), Option.bind_some]
  cases hv : numV b t.data.toList with
  | none =>
    rw [show resN none = ((0 : Int), (0 : Int), false, false) from rfl]
    dsimp only
    rw [if_neg (by decide)]
    simp only [value_Parse.j1]
    rw [if_neg (by decide), if_neg (by decide)]
    have h4 : value_has.f (n : Int) 4 = some ((n : Int) == 32) := by unfold value_has.f; rw [if_pos rfl]
    rw [h4, Option.bind_some]
    unfold bytesP
    by_cases h32 : n = 32
    · subst h32
      rw [if_pos (show (((32 : Nat) : Int) == 32) = true from rfl), if_pos rfl]
      obtain ⟨x, y, h1, h2⟩ := own_pieces 46 s hs 10 4 (by decide) decV 0 (.inl rfl) pn_dec decV_lt
      have h1' : value_pieces.f s ⟨#[46]⟩ 10 4 = some (x, y) := h1
      rw [h1', Option.bind_some]
      dsimp only
      cases ho : okP decV 4 (piecesB 46 s) with
      | none =>
        rw [ho] at h2
        dsimp only at h2
        rw [h2, if_neg (by decide)]
        exact own_j2 s hs 32 n1 n2 k (by omega)
      | some l =>
        rw [ho] at h2
        obtain ⟨rfl, rfl⟩ := h2
        rw [if_pos rfl, own_From _ 32 n1 n2 k (by omega), Option.bind_some]
    · rw [if_neg (by simp; omega), if_neg h32]
      exact own_j2 s hs n n1 n2 k (by omega)
  | some v =>
    rw [show resN (some v) = (pH (v % 2 ^ 128), pL (v % 2 ^ 128), decide (v < 2 ^ 128), true) from rfl]
    dsimp only
    rw [if_pos rfl]
    by_cases h128 : v < 2 ^ 128
    · rw [if_pos (decide_eq_true h128), Nat.mod_eq_of_lt h128, Fits_f _ _ (pH_in h128) (pL_in v) n n1 n2, V_p h128, Option.bind_some]
      simp only [value_Parse.j1]
      by_cases hn : v < 2 ^ n
      · rw [decide_eq_true hn, if_neg (by decide), if_pos trivial, if_pos hn]
      · rw [decide_eq_false hn, if_pos (by decide), if_neg hn]
    · have hn : ¬ v < 2 ^ n := fun h => h128 (Nat.lt_of_lt_of_le h (Nat.pow_le_pow_right (by decide) n2))
      rw [if_neg (by rw [decide_eq_false h128]; decide)]
      simp only [value_Parse.j1]
      rw [if_pos trivial, if_neg hn]
theorem mem_cut (c x : UInt8) : ∀ l : List UInt8, x ∈ l → x = c ∨ ∃ p ∈ cutAt c l, x ∈ p
  | [], h => by cases h
  | y :: r, h => by
    rw [cutAt_cons]
    rcases List.mem_cons.1 h with rfl | h
    · by_cases e : x = c
      · exact .inl e
      · rw [if_neg e]
        right
        cases hc : cutAt c r with
        | nil => exact ⟨[x], by simp, by simp⟩
        | cons p ps => exact ⟨x :: p, by simp, by simp⟩
    · rcases mem_cut c x r h with e | ⟨p, hp, hx⟩
      · exact .inl e
      · right
        split
        · exact ⟨p, List.mem_cons_of_mem _ hp, hx⟩
        · cases hc : cutAt c r with
          | nil => exact absurd hc (cutAt_ne c r)
          | cons q ps =>
            rw [hc] at hp
            rcases List.mem_cons.1 hp with rfl | hp
            · exact ⟨y :: p, by simp, by simp [hx]⟩
            · exact ⟨p, by simp [hp], hx⟩
theorem allM_mem (g : ByteArray → Option Nat) : ∀ (ps : List ByteArray) (l : List Int), allM g ps = some l → ∀ p ∈ ps, ∃ v, g p = some v
  | [], _, _, _, h => by cases h
  | q :: ps, l, h, p, hp => by
    simp only [allM] at h
    cases hg : g q with
    | none => rw [hg] at h; cases h
    | some v =>
      rw [hg] at h
      cases hm : allM g ps with
      | none => rw [hm] at h; cases h
      | some l' =>
        rcases List.mem_cons.1 hp with rfl | hp
        · exact ⟨v, hg⟩
        · exact allM_mem g ps l' hm p hp
theorem hexV_mem {p : ByteArray} {v : Nat} (h : hexV p = some v) : ∀ x ∈ p.data.toList, wN x < 16 := by
  unfold hexV at h
  split at h
  · rename_i x y hp
    split at h
    · rename_i hh
      intro z hz
      rw [hp] at hz
      simp only [List.mem_cons, List.not_mem_nil, or_false] at hz
      rcases hz with rfl | rfl
      · exact hh.1
      · exact hh.2
    · cases h
  · cases h
theorem dots_no_colons (s : ByteArray) (m : Nat) (h4 : (piecesB 46 s).length = 4) : okP hexV m (piecesB 58 s) = none := by
  have hmem : (46 : UInt8) ∈ s.data.toList := by
    refine Classical.byContradiction fun h => ?_
    unfold piecesB at h4
    rw [cutAt_self 46 _ h] at h4
    simp at h4
  unfold okP
  split
  · cases ha : allM hexV (piecesB 58 s) with
    | none => rfl
    | some l =>
      rcases mem_cut 58 46 _ hmem with e | ⟨p, hp, hx⟩
      · exact absurd e (by decide)
      · obtain ⟨v, hv⟩ := allM_mem hexV _ l ha ⟨p.toArray⟩ (List.mem_map.2 ⟨p, hp, rfl⟩)
        have := hexV_mem hv 46 (by simpa using hx)
        exact absurd this (by decide)
  · rfl
theorem bytes_one (s : ByteArray) (n : Nat) : bytesP s n = bytesR s n := by
  unfold bytesP bytesR
  by_cases h32 : n = 32
  · rw [if_pos h32]
    by_cases h4 : (piecesB 46 s).length = 4
    · conv => rhs; rw [if_pos ⟨h32, h4⟩]
      have e : okP decV 4 (piecesB 46 s) = allM decV (piecesB 46 s) := by unfold okP; rw [if_pos h4]
      rw [e]
      cases ha : allM decV (piecesB 46 s) with
      | some l => rfl
      | none =>
        dsimp only
        rw [dots_no_colons s (n / 8) h4]
        split <;> rfl
    · conv => rhs; rw [if_neg (fun h => h4 h.2)]
      have : okP decV 4 (piecesB 46 s) = none := by unfold okP; rw [if_neg h4]
      rw [this]
  · rw [if_neg h32]
    conv => rhs; rw [if_neg (fun h => h32 h.1)]
theorem own_Parse (s : ByteArray) (hs : s.size ≤ 140737488351232) (n : Nat) (n1 : 1 ≤ n) (n2 : n ≤ 128) (k : Nat) (hk : 60 ≤ k) : value_Parse.f k s n = some (ParseR s n) := by
  have tail := fun b t hb ht => own_tail s hs n n1 n2 b t hb ht k hk
  have hx : (s.extract 2 s.size).size ≤ s.size := by simp [ByteArray.size_extract]
  rw [bytes_one] at tail
  unfold value_Parse.f
  rw [isWidth_yes (by omega), Option.bind_some, if_pos rfl]
  by_cases h1 : ∃ r, s.data.toList = 48 :: 120 :: r
  · obtain ⟨r, hr⟩ := h1
    rw [cut_yes hr, Option.bind_some]
    dsimp only
    rw [if_pos rfl]
    unfold ParseR
    rw [base_x hr]
    exact tail 16 _ (by decide) hx
  · have h1' : ∀ r, s.data.toList ≠ 48 :: 120 :: r := fun r h => h1 ⟨r, h⟩
    rw [cut_no h1', Option.bind_some]
    dsimp only
    rw [if_neg Bool.false_ne_true]
    by_cases h2 : ∃ r, s.data.toList = 48 :: 98 :: r
    · obtain ⟨r, hr⟩ := h2
      rw [cut_yes hr, Option.bind_some]
      dsimp only
      rw [if_pos rfl]
      unfold ParseR
      rw [base_b hr]
      exact tail 2 _ (by decide) hx
    · have h2' : ∀ r, s.data.toList ≠ 48 :: 98 :: r := fun r h => h2 ⟨r, h⟩
      rw [cut_no h2', Option.bind_some]
      dsimp only
      rw [if_neg Bool.false_ne_true]
      unfold ParseR
      rw [base_no h1' h2']
      exact tail 10 _ (by decide) (Nat.le_refl _)
end Go.Proofs.YtofnhgpiipmegaaDoor.PV
namespace Go.Proofs.YtofnhgpiipmegaaDoor.PV
open Go.RowKit Go.Proofs.YtofnhgpiipmegaaDoorW.PrintWords Go.Proofs.YtofnhgpiipmegaaDoorW.PrintLast Go.Proofs.YtofnhgpiipmegaaDoorW.PrintMore
set_option linter.unusedVariables false
set_option linter.unusedSimpArgs false
def byL (m v : Nat) : List UInt8 := (strOfNums (beL m v)).data.toList
theorem str_data (l : List Int) : (strOfNums l).data.toList = l.map fun n => UInt8.ofNat n.toNat := by simp [strOfNums]
theorem byL_succ (m v : Nat) : byL (m + 1) v = UInt8.ofNat (v / 256 ^ m % 256) :: byL m v := by
  unfold byL; rw [str_data, str_data]; rfl
theorem byL_len (m v : Nat) : (byL m v).length = m := by unfold byL; rw [str_data, List.length_map, beL_length]
def pieceT (form : Nat) (c : UInt8) : ByteArray := if form = 4 then dgB 10 c.toNat else hexB c.toNat
theorem dgs_len (b : Nat) : ∀ (f v : Nat) (acc : List Nat), (dgs b f v acc).length ≤ f + acc.length
  | 0, v, acc => by simp [dgs]
  | f + 1, v, acc => by
    simp only [dgs]
    split
    · simp; omega
    · have := dgs_len b f (v / b) (v % b :: acc); simp at this; omega
theorem pieceT_size (form : Nat) (c : UInt8) : (pieceT form c).size ≤ 128 := by
  rw [← data_length]
  unfold pieceT
  split
  · unfold dgB; have := dgs_len 10 128 c.toNat []; simpa using this
  · unfold hexB; rw [str_data]; simp
theorem joinB_len (sep : ByteArray) (hs : sep.size = 1) : ∀ l : List ByteArray, (∀ p ∈ l, p.size ≤ 128) → (joinB l sep).length ≤ 129 * l.length
  | [], _ => by simp [joinB, Lib.join_nil]
  | p :: r, h => by
    have hp := h p List.mem_cons_self
    have ht : ∀ r : List ByteArray, (∀ p ∈ r, p.size ≤ 128) → (Lib.joinTail sep.data.toList (r.map (fun x => x.data.toList))).length ≤ 129 * r.length := by
      intro r
      induction r with
      | nil => intro _; simp [Lib.joinTail]
      | cons q r ih =>
        intro h
        have hq := h q List.mem_cons_self
        have := ih (fun p hp => h p (List.mem_cons_of_mem _ hp))
        unfold Lib.joinTail at this ⊢
        rw [List.map_cons, List.map_cons, List.flatten_cons, List.length_append, List.length_append, List.length_cons, data_length, data_length]
        omega
    have := ht r (fun p hp => h p (List.mem_cons_of_mem _ hp))
    unfold joinB
    rw [List.map_cons, Lib.join_cons, List.length_append, List.length_cons, data_length]
    omega
def sepT (form : Nat) : ByteArray := if form = 4 then ⟨#[46]⟩ else ⟨#[58]⟩
theorem sepT_size (form : Nat) : (sepT form).size = 1 := by unfold sepT; split <;> rfl
def joinT (form : Nat) (bs : List UInt8) : ByteArray := ⟨(joinB (bs.map (pieceT form)) (sepT form)).toArray⟩
theorem digit_byte (c : UInt8) : pH c.toNat = 0 ∧ pL c.toNat = (c.toNat : Int) := by
  have := UInt8.toNat_lt c
  unfold pH pL
  rw [two64]
  constructor <;> omega
theorem own_Join (form : Nat) (bs : List UInt8) (h : bs.length ≤ 16) : strings_Join.f (bs.map (pieceT form)) (sepT form) = some (joinT form bs) := by
  unfold strings_Join.f joinT
  have h2 := joinB_len (sepT form) (sepT_size form) (bs.map (pieceT form)) (fun p hp => by obtain ⟨c, _, rfl⟩ := List.mem_map.1 hp; exact pieceT_size form c)
  rw [List.length_map] at h2
  rw [if_pos ⟨by rw [List.length_map]; omega, by omega⟩]
theorem own_Text_go (form : Nat) (s : ByteArray) (hs : s.size ≤ 16) (hf : form = 4 ∨ form = 5) : ∀ (d i k : Nat) (acc : List ByteArray), i + d = s.size → acc.length = i → d < k →
    value_Text.l0 k form s acc (s.size : Int) i = (strings_Join.f (acc ++ (s.data.toList.drop i).map (pieceT form)) (sepT form)).bind fun t => some (t, 0) := by
  intro d
  induction d with
  | zero =>
    intro i k acc hd ha hk
    obtain ⟨k, rfl⟩ : ∃ j, k = j + 1 := ⟨k - 1, by omega⟩
    simp only [value_Text.l0]
    rw [if_neg (by omega), List.drop_eq_nil_of_le (by rw [data_length]; omega)]
    rcases hf with rfl | rfl
    · rw [if_pos (show ((4 : Nat) : Int) = 4 from rfl)]; simp [sepT]
    · rw [if_neg (by decide)]; simp [sepT]
  | succ d ih =>
    intro i k acc hd ha hk
    obtain ⟨k, rfl⟩ : ∃ j, k = j + 1 := ⟨k - 1, by omega⟩
    obtain ⟨c, r, h1, h2, h3⟩ := bt_drop s i (by omega)
    have e : wrap64 ((i : Int) + 1) = ((i + 1 : Nat) : Int) := by unfold wrap64; omega
    have hc := UInt8.toNat_lt c
    have hw : IntKind.u64.wrap (c.toNat : Int) = (c.toNat : Int) := by rw [wrapU_eq]; omega
    have hrec : ∀ p, p = pieceT form c → value_Text.l0 k form s (acc ++ [p]) (s.size : Int) ((i + 1 : Nat) : Int) = (strings_Join.f (acc ++ (s.data.toList.drop i).map (pieceT form)) (sepT form)).bind fun t => some (t, 0) := by
      rintro p rfl
      rw [ih (i + 1) k _ (by omega) (by rw [List.length_append, List.length_singleton]; omega) (by omega), h1, h2]
      simp
    simp only [value_Text.l0]
    rw [if_pos (by omega), h3, e, hw]
    rcases hf with rfl | rfl
    · obtain ⟨d1, d2⟩ := digit_byte c
      have hdig := own_digits 10 c.toNat (by decide) (Nat.lt_of_lt_of_le hc (by decide))
      rw [d1, d2] at hdig
      have hdig' : value_digits.f 0 (c.toNat : Int) 10 = some (dgB 10 c.toNat) := hdig
      rw [if_pos (show ((4 : Nat) : Int) = 4 from rfl), if_pos (by omega), if_pos (by omega), hdig', Option.bind_some, if_pos (by omega)]
      exact hrec _ rfl
    · rw [if_neg (by decide), if_pos (by omega), if_pos (by omega), if_pos (by omega)]
      exact hrec _ rfl
end Go.Proofs.YtofnhgpiipmegaaDoor.PV
namespace Go.Proofs.YtofnhgpiipmegaaDoor.PV
open Go.RowKit Go.Proofs.YtofnhgpiipmegaaDoorW.PrintWords Go.Proofs.YtofnhgpiipmegaaDoorW.PrintLast Go.Proofs.YtofnhgpiipmegaaDoorW.PrintMore
set_option linter.unusedVariables false
set_option linter.unusedSimpArgs false
def hasF (n : Nat) (form : Int) : Bool := if form = 4 then decide (n = 32) else if form = 5 then decide (n % 8 = 0 ∧ 9 ≤ n) else true
def TextR (v n : Nat) (form : Int) : ByteArray × Int :=
  if form < 1 ∨ 5 < form then (⟨#[]⟩, 1) else if hasF n form = false then (⟨#[]⟩, 10) else if ¬ v < 2 ^ n then (⟨#[]⟩, 11)
  else if form = 1 then (dgB 10 v, 0) else if form = 2 then ((⟨#[48, 120]⟩ : ByteArray) ++ dgB 16 v, 0) else if form = 3 then ((⟨#[48, 98]⟩ : ByteArray) ++ dgB 2 v, 0)
  else if form = 4 then (joinT 4 (byL ((n + 7) / 8) v), 0) else (joinT 5 (byL ((n + 7) / 8) v), 0)
theorem TextR_bad (v n : Nat) (form : Int) (h : form < 1 ∨ 5 < form) : TextR v n form = (⟨#[]⟩, 1) := if_pos h
theorem TextR_has (v n : Nat) (form : Int) (h : ¬ (form < 1 ∨ 5 < form)) (hh : hasF n form = false) : TextR v n form = (⟨#[]⟩, 10) := by unfold TextR; rw [if_neg h, if_pos hh]
theorem TextR_fit (v n : Nat) (form : Int) (h : ¬ (form < 1 ∨ 5 < form)) (hh : hasF n form = true) (hn : ¬ v < 2 ^ n) : TextR v n form = (⟨#[]⟩, 11) := by unfold TextR; rw [if_neg h, hh, if_neg (by decide), if_pos hn]
theorem TextR_in (v n : Nat) (form : Int) (h : ¬ (form < 1 ∨ 5 < form)) (hh : hasF n form = true) (hn : v < 2 ^ n) : TextR v n form = if form = 1 then (dgB 10 v, 0) else if form = 2 then ((⟨#[48, 120]⟩ : ByteArray) ++ dgB 16 v, 0) else if form = 3 then ((⟨#[48, 98]⟩ : ByteArray) ++ dgB 2 v, 0)
  else if form = 4 then (joinT 4 (byL ((n + 7) / 8) v), 0) else (joinT 5 (byL ((n + 7) / 8) v), 0) := by
  unfold TextR; rw [if_neg h, hh, if_neg (by decide), if_neg (fun g => g hn)]
theorem own_has (n : Nat) (n1 : 1 ≤ n) (n2 : n ≤ 128) (form : Int) : value_has.f n form = some (hasF n form) := by
  unfold hasF
  by_cases h4 : form = 4
  · subst h4
    rw [if_pos rfl]
    unfold value_has.f
    rw [if_pos rfl]
    congr 1
    by_cases h : n = 32
    · subst h; rfl
    · rw [decide_eq_false h]; exact beq_eq_false_iff_ne.2 (by omega)
  · rw [if_neg h4]
    by_cases h5 : form = 5
    · subst h5
      rw [if_pos rfl]
      exact ownHas5 n n1 n2
    · rw [if_neg h5]
      unfold value_has.f
      rw [if_neg h4, if_neg h5, isWidth_yes (by omega)]; rfl
theorem dgB_size (b v : Nat) : (dgB b v).size ≤ 128 := by
  rw [← data_length]; unfold dgB
  have := dgs_len b 128 v []
  simpa using this
theorem byL_size (m v : Nat) : (strOfNums (beL m v)).size = m := by rw [← data_length]; exact byL_len m v
theorem own_Text (v n : Nat) (n1 : 1 ≤ n) (n2 : n ≤ 128) (hv : v < 2 ^ 128) (form : Int) (k : Nat) (hk : 60 ≤ k) : value_Text.f k (pH v) (pL v) n form = some (TextR v n form) := by
  obtain ⟨k, rfl⟩ : ∃ j, k = j + 1 := ⟨k - 1, by omega⟩
  unfold value_Text.f
  by_cases hb : form < 1 ∨ 5 < form
  · rw [TextR_bad v n form hb]
    rcases hb with hb | hb
    · rw [if_pos hb]; simp only [value_Text.j0]; rw [if_pos trivial]
    · rw [if_neg (by omega), decide_eq_true hb]; simp only [value_Text.j0]; rw [if_pos trivial]
  · rw [if_neg (by omega), decide_eq_false (by omega)]
    simp only [value_Text.j0]
    rw [if_neg (by decide), own_has n n1 n2, Option.bind_some]
    cases hh : hasF n form with
    | false => rw [if_neg (by decide), TextR_has v n form hb hh]
    | true =>
      rw [if_pos rfl, Fits_f _ _ (pH_in hv) (pL_in v) n n1 n2, V_p hv, Option.bind_some]
      by_cases hn : v < 2 ^ n
      · rw [if_pos (decide_eq_true hn), TextR_in v n form hb hh hn]
        rcases (show form = 1 ∨ form = 2 ∨ form = 3 ∨ form = 4 ∨ form = 5 by omega) with rfl | rfl | rfl | rfl | rfl
        · have := own_digits 10 v (by decide) hv
          rw [if_pos rfl, if_pos rfl, show (10 : Int) = ((10 : Nat) : Int) from rfl, this]; rfl
        · have := own_digits 16 v (by decide) hv
          have hd := dgB_size 16 v
          rw [if_neg (by decide), if_pos rfl, if_neg (by decide), if_pos rfl, show (16 : Int) = ((16 : Nat) : Int) from rfl, this, Option.bind_some, if_pos (by omega)]
        · have := own_digits 2 v (by decide) hv
          have hd := dgB_size 2 v
          rw [if_neg (by decide), if_neg (by decide), if_pos rfl, if_neg (by decide), if_neg (by decide), if_pos rfl, show value_digits.f (pH v) (pL v) 2 = some (dgB 2 v) from this, Option.bind_some, if_pos (by omega)]
        · rw [if_neg (by decide), if_neg (by decide), if_neg (by decide), if_neg (by decide), if_neg (by decide), if_neg (by decide), if_pos rfl, Bytes_f _ _ (pH_in hv) (pL_in v) n k n1 n2 (by rw [V_p hv]; exact hn) (by omega), V_p hv, Option.bind_some]
          have hsz := byL_size ((n + 7) / 8) v
          have := own_Text_go 4 (strOfNums (beL ((n + 7) / 8) v)) (by omega) (.inl rfl) ((n + 7) / 8) 0 k [] (by omega) rfl (by omega)
          rw [List.drop_zero, List.nil_append, own_Join 4 _ (by rw [data_length]; omega)] at this
          exact this
        · rw [if_neg (by decide), if_neg (by decide), if_neg (by decide), if_neg (by decide), if_neg (by decide), if_neg (by decide), if_neg (by decide), Bytes_f _ _ (pH_in hv) (pL_in v) n k n1 n2 (by rw [V_p hv]; exact hn) (by omega), V_p hv, Option.bind_some]
          have hsz := byL_size ((n + 7) / 8) v
          have := own_Text_go 5 (strOfNums (beL ((n + 7) / 8) v)) (by omega) (.inr rfl) ((n + 7) / 8) 0 k [] (by omega) rfl (by omega)
          rw [List.drop_zero, List.nil_append, own_Join 5 _ (by rw [data_length]; omega)] at this
          exact this
      · rw [if_neg (by simp [hn]), TextR_fit v n form hb hh hn]
theorem awake_t : turnoutlaw01_awake.f 40 = some true := by decide +kernel
theorem awake_texts (k : Nat) (h : 40 ≤ k) : turnoutlaw01_awake.f k = some true := at_rounds (g := turnoutlaw01_awake.f) (fun k => turnoutlaw01_awake.mono k) h awake_t
end Go.Proofs.YtofnhgpiipmegaaDoor.PV
namespace Go.Proofs.YtofnhgpiipmegaaDoor.PV
open Go.RowKit Go.Proofs.YtofnhgpiipmegaaDoorW.PrintWords Go.Proofs.YtofnhgpiipmegaaDoorW.PrintLast Go.Proofs.YtofnhgpiipmegaaDoorW.PrintMore
set_option linter.unusedVariables false
set_option linter.unusedSimpArgs false
theorem wN_sign : ∀ d < 16, wN (signN d) = d := by decide +kernel
theorem sign_wN (c : UInt8) (h : wN c < 16) : signN (wN c) = c := by
  have : ∀ n < 256, wN (UInt8.ofNat n) < 16 → signN (wN (UInt8.ofNat n)) = UInt8.ofNat n := by decide +kernel
  have e : UInt8.ofNat c.toNat = c := by simp
  have := this c.toNat (UInt8.toNat_lt c)
  rw [e] at this
  exact this h
theorem dgs_read (b : Nat) (hb : 2 ≤ b) (hb2 : b ≤ 16) : ∀ (f v : Nat) (acc : List Nat), v < 2 ^ f → 1 ≤ f → numT b ((dgs b f v acc).map signN) 0 = numT b (acc.map signN) v
  | 0, v, acc, _, h => by omega
  | f + 1, v, acc, hv, _ => by
    have hm := Nat.mod_lt v (show 0 < b by omega)
    have hd := Nat.div_add_mod v b
    simp only [dgs]
    by_cases hz : v / b = 0
    · rw [if_pos hz, List.map_cons]
      simp only [numT]
      have hvb : v % b = v := by rw [hz] at hd; omega
      rw [wN_sign _ (by omega), if_pos hm, hvb, Nat.zero_mul, Nat.zero_add]
    · rw [if_neg hz]
      have hvb : v / b < 2 ^ f := by
        have : v / b ≤ v / 2 := Nat.div_le_div_left hb (by omega)
        rw [Nat.pow_succ] at hv
        omega
      have hf : 1 ≤ f := by
        rcases Nat.eq_zero_or_pos f with rfl | h
        · rw [Nat.pow_zero] at hvb; exact absurd (Nat.lt_one_iff.1 hvb) hz
        · exact h
      rw [dgs_read b hb hb2 f (v / b) _ hvb hf, List.map_cons]
      simp only [numT]
      rw [wN_sign _ (by omega), if_pos hm, Nat.mul_comm, hd]
theorem dgs_head (b : Nat) (hb : 2 ≤ b) : ∀ (f v : Nat) (acc : List Nat), v ≠ 0 → v < 2 ^ f → 1 ≤ f → ∃ d r, dgs b f v acc = d :: r ∧ d ≠ 0 ∧ d < b
  | 0, v, acc, _, _, h => by omega
  | f + 1, v, acc, h0, hv, _ => by
    have hm := Nat.mod_lt v (show 0 < b by omega)
    have hd := Nat.div_add_mod v b
    simp only [dgs]
    by_cases hz : v / b = 0
    · rw [if_pos hz]
      exact ⟨_, _, rfl, by rw [hz] at hd; omega, hm⟩
    · rw [if_neg hz]
      have hvb : v / b < 2 ^ f := by
        have : v / b ≤ v / 2 := Nat.div_le_div_left hb (by omega)
        rw [Nat.pow_succ] at hv
        omega
      have hf : 1 ≤ f := by
        rcases Nat.eq_zero_or_pos f with rfl | h
        · rw [Nat.pow_zero] at hvb; exact absurd (Nat.lt_one_iff.1 hvb) hz
        · exact h
      exact dgs_head b hb f _ _ hz hvb hf
theorem dgs_zero (b : Nat) (hb : 2 ≤ b) (f : Nat) : dgs b (f + 1) 0 [] = [0] := by simp [dgs]
theorem numV_of {b : Nat} {l : List UInt8} {v : Nat} (h : numT b l 0 = some v) (hl : l = [] → False) (h48 : ∀ c d r, l = c :: d :: r → c ≠ 48) : numV b l = some v := by
  match l with
  | [] => exact (hl rfl).elim
  | [c] => exact h
  | c :: d :: r => simp only [numV]; rw [if_neg (h48 c d r rfl)]; exact h
theorem of_numV {b : Nat} {l : List UInt8} {v : Nat} (h : numV b l = some v) : numT b l 0 = some v ∧ l ≠ [] ∧ ∀ c d r, l = c :: d :: r → c ≠ 48 := by
  match l with
  | [] => cases h
  | [c] => exact ⟨h, by simp, by simp⟩
  | c :: d :: r =>
    simp only [numV] at h
    split at h
    · cases h
    · rename_i h48
      exact ⟨h, by simp, fun c' d' r' e => by cases e; exact h48⟩
theorem num_digits (b v : Nat) (hb : 2 ≤ b) (hb2 : b ≤ 16) (hv : v < 2 ^ 128) : numV b (dgB b v).data.toList = some v := by
  have e : (dgB b v).data.toList = (dgs b 128 v []).map signN := by simp [dgB]
  rw [e]
  have hr := dgs_read b hb hb2 128 v [] hv (by decide)
  refine numV_of hr ?_ ?_
  · intro h
    by_cases h0 : v = 0
    · subst h0; rw [dgs_zero b hb] at h; cases h
    · obtain ⟨d, r, h1, _⟩ := dgs_head b hb 128 v [] h0 hv (by decide)
      rw [h1] at h; cases h
  · intro c d r h
    by_cases h0 : v = 0
    · subst h0; rw [dgs_zero b hb] at h; cases h
    · obtain ⟨d', r', h1, h2, h3⟩ := dgs_head b hb 128 v [] h0 hv (by decide)
      rw [h1, List.map_cons] at h
      have hc : signN d' = c := (List.cons.inj h).1
      intro h48
      have hw := wN_sign d' (by omega)
      rw [hc, h48] at hw
      exact h2 (hw.symm.trans (by decide))
theorem numT_snoc (b : Nat) (c : UInt8) : ∀ (l : List UInt8) (u w : Nat), numT b (l ++ [c]) u = some w → ∃ v, numT b l u = some v ∧ wN c < b ∧ w = v * b + wN c
  | [], u, w, h => by
    simp only [List.nil_append, numT] at h
    split at h
    · rename_i hc; exact ⟨u, rfl, hc, (Option.some.inj h).symm⟩
    · cases h
  | x :: l, u, w, h => by
    simp only [List.cons_append, numT] at h ⊢
    split at h
    · rename_i hx
      obtain ⟨v, h1, h2, h3⟩ := numT_snoc b c l _ w h
      exact ⟨v, by rw [if_pos hx]; exact h1, h2, h3⟩
    · cases h
theorem dgs_back (b : Nat) (hb : 2 ≤ b) : ∀ (n : Nat) (l : List UInt8) (f v : Nat) (acc : List Nat), l.length = n → l ≠ [] → (∀ c d r, l = c :: d :: r → c ≠ 48) → numT b l 0 = some v → v < 2 ^ f → 1 ≤ f → dgs b f v acc = l.map wN ++ acc
  | 0, l, f, v, acc, hn, hl, _, _, _, _ => absurd (List.length_eq_zero_iff.1 hn) hl
  | n + 1, l, f, v, acc, hn, hl, h48, h, hv, hf => by
    obtain ⟨l', c, rfl⟩ : ∃ l' c, l = l' ++ [c] := ⟨l.dropLast, l.getLast hl, (List.dropLast_concat_getLast hl).symm⟩
    obtain ⟨v', h1, h2, h3⟩ := numT_snoc b c l' 0 v h
    obtain ⟨f, rfl⟩ : ∃ j, f = j + 1 := ⟨f - 1, by omega⟩
    have q1 : v / b = v' := by rw [h3, Nat.mul_comm, Nat.mul_add_div (by omega), Nat.div_eq_of_lt h2]; omega
    have q2 : v % b = wN c := by rw [h3, Nat.mul_comm, Nat.mul_add_mod, Nat.mod_eq_of_lt h2]
    simp only [dgs]
    rw [q1, q2]
    by_cases he : l' = []
    · subst he
      simp only [numT, Option.some.injEq] at h1
      subst h1
      rw [if_pos rfl]; rfl
    · have hne : v' ≠ 0 := by
        match l', he with
        | x :: r, _ =>
          intro hz
          subst hz
          have hx48 : x ≠ 48 := by
            match r with
            | [] => exact h48 x c [] rfl
            | y :: r => exact h48 x y (r ++ [c]) rfl
          simp only [numT] at h1
          split at h1
          · have := (numT_bd b r _ _ h1).1
            have hp : 0 < b ^ r.length := Nat.pow_pos (by omega)
            have hz : 0 * b + wN x = 0 := by
              rcases Nat.eq_zero_or_pos (0 * b + wN x) with h | h
              · exact h
              · have := Nat.mul_pos h hp; omega
            exact hx48 (wN_zero x (by omega))
          · cases h1
      rw [if_neg hne]
      have hv' : v' < 2 ^ f := by
        rw [Nat.pow_succ] at hv
        have : v' * 2 ≤ v' * b := Nat.mul_le_mul_left _ hb
        omega
      have hf' : 1 ≤ f := by
        rcases Nat.eq_zero_or_pos f with rfl | h
        · rw [Nat.pow_zero] at hv'; omega
        · exact h
      have h48' : ∀ x y r, l' = x :: y :: r → x ≠ 48 := fun x y r e => h48 x y (r ++ [c]) (by rw [e]; rfl)
      rw [dgs_back b hb n l' f v' _ (by simp at hn; omega) he h48' h1 hv' hf']
      simp
theorem numT_mem (b : Nat) : ∀ (l : List UInt8) (u w : Nat), numT b l u = some w → ∀ c ∈ l, wN c < b
  | [], _, _, _, _, h => by cases h
  | x :: l, u, w, h, c, hc => by
    simp only [numT] at h
    split at h
    · rename_i hx
      rcases List.mem_cons.1 hc with rfl | hc
      · exact hx
      · exact numT_mem b l _ w h c hc
    · cases h
theorem digits_num (b v : Nat) (hb : 2 ≤ b) (hb2 : b ≤ 16) (hv : v < 2 ^ 128) (p : ByteArray) (h : numV b p.data.toList = some v) : dgB b v = p := by
  obtain ⟨h1, h2, h3⟩ := of_numV h
  have hd := dgs_back b hb _ p.data.toList 128 v [] rfl h2 h3 h1 hv (by decide)
  apply ext_bytes
  have e : (dgB b v).data.toList = (dgs b 128 v []).map signN := by simp [dgB]
  rw [e, hd, List.append_nil, List.map_map]
  conv => rhs; rw [← List.map_id p.data.toList]
  exact List.map_congr_left fun c hc => sign_wN c (Nat.lt_of_lt_of_le (numT_mem b _ 0 v h1 c hc) hb2)
theorem numV_no {b : Nat} {l : List UInt8} {c : UInt8} (hc : c ∈ l) (hw : ¬ wN c < b) : numV b l = none := by
  cases h : numV b l with
  | none => rfl
  | some v => exact absurd (numT_mem b l 0 v (of_numV h).1 c hc) hw
theorem join_cut (c : UInt8) : ∀ l : List UInt8, Lib.join (cutAt c l) [c] = l
  | [] => by simp [cutAt, Lib.join_one]
  | x :: r => by
    have ih := join_cut c r
    rw [cutAt_cons]
    by_cases e : x = c
    · subst e
      rw [if_pos rfl]
      cases hc : cutAt x r with
      | nil => exact absurd hc (cutAt_ne x r)
      | cons p ps =>
        rw [hc, Lib.join_cons] at ih
        rw [Lib.join_cons]
        unfold Lib.joinTail at ih ⊢
        simp [← ih]
    · rw [if_neg e]
      cases hc : cutAt c r with
      | nil => exact absurd hc (cutAt_ne c r)
      | cons p ps =>
        rw [hc, Lib.join_cons] at ih
        dsimp only
        rw [Lib.join_cons, List.cons_append, ih]
theorem cut_join (c : UInt8) : ∀ (p : List UInt8) (ps : List (List UInt8)), (∀ q ∈ p :: ps, c ∉ q) → cutAt c (Lib.join (p :: ps) [c]) = p :: ps
  | p, [], h => by rw [Lib.join_one]; exact cutAt_self c p (h p List.mem_cons_self)
  | p, q :: ps, h => by
    have e : Lib.join (p :: q :: ps) [c] = p ++ c :: Lib.join (q :: ps) [c] := by
      rw [Lib.join_cons, Lib.join_cons]; unfold Lib.joinTail; simp
    rw [e, cutAt_app c p _ (h p List.mem_cons_self), cut_join c q ps (fun r hr => h r (List.mem_cons_of_mem _ hr))]
theorem sep_data (form : Nat) : (sepT form).data.toList = [if form = 4 then 46 else 58] := by unfold sepT; split <;> rfl
theorem piece_chars (form : Nat) (hf : form = 4 ∨ form = 5) (c : UInt8) : ∀ x ∈ (pieceT form c).data.toList, wN x < 16 := by
  intro x hx
  have hc := UInt8.toNat_lt c
  rcases hf with rfl | rfl
  · have h := num_digits 10 c.toNat (by decide) (by decide) (Nat.lt_of_lt_of_le hc (by decide))
    have := numT_mem 10 _ 0 _ (of_numV h).1 x hx
    omega
  · unfold pieceT hexB at hx
    rw [if_neg (by decide), str_data] at hx
    simp only [List.map_cons, List.map_nil, List.mem_cons, List.not_mem_nil, or_false] at hx
    rcases hx with rfl | rfl
    · show wN (signN _) < 16
      rw [wN_sign _ (by omega)]; omega
    · show wN (signN _) < 16
      rw [wN_sign _ (by omega)]; omega
theorem sep_bad (form : Nat) : ¬ wN (if form = 4 then 46 else 58) < 16 := by split <;> decide
theorem pieces_join (form : Nat) (hf : form = 4 ∨ form = 5) (bs : List UInt8) (hne : bs ≠ []) : piecesB (if form = 4 then 46 else 58) (joinT form bs) = bs.map (pieceT form) := by
  unfold piecesB joinT joinB
  rw [sep_data]
  match bs, hne with
  | b :: r, _ =>
    simp only [List.map_cons]
    rw [cut_join]
    · simp
    · intro q hq hm
      have hq' : q ∈ ((b :: r).map (pieceT form)).map (fun x => x.data.toList) := hq
      obtain ⟨p, hp, rfl⟩ := List.mem_map.1 hq'
      obtain ⟨c, _, rfl⟩ := List.mem_map.1 hp
      exact sep_bad form (piece_chars form hf c _ hm)
theorem join_pieces (form : Nat) (s : ByteArray) (bs : List UInt8) (h : piecesB (if form = 4 then 46 else 58) s = bs.map (pieceT form)) : joinT form bs = s := by
  apply ext_bytes
  unfold joinT joinB
  rw [← h, sep_data]
  unfold piecesB
  rw [List.map_map]
  have : (fun x : ByteArray => x.data.toList) ∘ (fun l : List UInt8 => (⟨l.toArray⟩ : ByteArray)) = id := by funext l; simp
  rw [this, List.map_id]
  exact join_cut _ _
theorem beV_acc : ∀ (l : List UInt8) (v : Nat), beV l v = v * 256 ^ l.length + beV l 0
  | [], v => by simp [beV]
  | c :: r, v => by
    simp only [beV]
    rw [beV_acc r (v * 256 + c.toNat), beV_acc r (0 * 256 + c.toNat), List.length_cons, Nat.pow_succ, Nat.add_mul, Nat.mul_assoc, Nat.mul_comm 256, Nat.zero_mul, Nat.zero_add]
    omega
theorem beV_lt : ∀ l : List UInt8, beV l 0 < 256 ^ l.length
  | [] => by simp [beV]
  | c :: r => by
    simp only [beV]
    rw [beV_acc, List.length_cons, Nat.pow_succ]
    have h1 := beV_lt r
    have h2 := UInt8.toNat_lt c
    have h3 : (0 * 256 + c.toNat) * 256 ^ r.length ≤ 255 * 256 ^ r.length := Nat.mul_le_mul_right _ (by omega)
    omega
theorem byL_mod : ∀ (m v w : Nat), v % 256 ^ m = w % 256 ^ m → byL m v = byL m w
  | 0, _, _, _ => rfl
  | m + 1, v, w, h => by
    rw [byL_succ, byL_succ]
    have e : v % 256 ^ m = w % 256 ^ m := by
      have := congrArg (· % 256 ^ m) h
      simpa [Nat.pow_succ, Nat.mod_mul_right_mod] using this
    have e2 : v / 256 ^ m % 256 = w / 256 ^ m % 256 := by
      have := congrArg (· / 256 ^ m) h
      simpa [Nat.pow_succ, Nat.mod_mul_right_div_self] using this
    rw [e2, byL_mod m v w e]
theorem byL_beV : ∀ l : List UInt8, byL l.length (beV l 0) = l
  | [] => rfl
  | c :: r => by
    have h1 := beV_lt r
    have hc := UInt8.toNat_lt c
    rw [List.length_cons, byL_succ]
    simp only [beV]
    rw [beV_acc]
    have hp : 0 < 256 ^ r.length := Nat.pow_pos (by decide)
    have e1 : ((0 * 256 + c.toNat) * 256 ^ r.length + beV r 0) / 256 ^ r.length % 256 = c.toNat := by
      rw [Nat.mul_comm, Nat.mul_add_div hp, Nat.div_eq_of_lt h1]; omega
    rw [e1, byL_mod r.length _ (beV r 0) (by rw [Nat.mul_comm, Nat.mul_add_mod]), byL_beV r]
    simp
theorem beV_byL : ∀ (m v : Nat), beV (byL m v) 0 = v % 256 ^ m
  | 0, v => by simp [byL, beL, beV, strOfNums, Nat.mod_one]
  | m + 1, v => by
    rw [byL_succ]
    simp only [beV]
    rw [beV_acc, beV_byL m v, byL_len, UInt8.toNat_ofNat_of_lt' (Nat.mod_lt _ (by decide)), Nat.pow_succ, Nat.mod_mul]
    rw [Nat.zero_mul, Nat.zero_add, Nat.mul_comm, Nat.add_comm]
theorem From_Bytes (v n : Nat) (n1 : 1 ≤ n) (hv : v < 2 ^ n) : FromR (strOfNums (beL ((n + 7) / 8) v)) n = (pH v, pL v, 0) := by
  unfold FromR
  have e : beV (strOfNums (beL ((n + 7) / 8) v)).data.toList 0 = v := by
    have h := beV_byL ((n + 7) / 8) v
    unfold byL at h
    rw [h, Nat.mod_eq_of_lt]
    refine Nat.lt_of_lt_of_le hv ?_
    rw [show (256 : Nat) = 2 ^ 8 from rfl, ← Nat.pow_mul]
    exact Nat.pow_le_pow_right (by decide) (by omega)
  rw [if_pos (byL_size _ _), e, if_pos hv]
end Go.Proofs.YtofnhgpiipmegaaDoor.PV
namespace Go.Proofs.YtofnhgpiipmegaaDoor.PV
open Go.RowKit Go.Proofs.YtofnhgpiipmegaaDoorW.PrintWords Go.Proofs.YtofnhgpiipmegaaDoorW.PrintLast Go.Proofs.YtofnhgpiipmegaaDoorW.PrintMore
set_option linter.unusedVariables false
set_option linter.unusedSimpArgs false
theorem TextR_1 (v n : Nat) (hh : hasF n ((1 : Nat) : Int) = true) (hn : v < 2 ^ n) : TextR v n ((1 : Nat) : Int) = (dgB 10 v, 0) := by
  rw [TextR_in v n _ (by decide) hh hn, if_pos (by decide)]
theorem TextR_2 (v n : Nat) (hh : hasF n ((2 : Nat) : Int) = true) (hn : v < 2 ^ n) : TextR v n ((2 : Nat) : Int) = ((⟨#[48, 120]⟩ : ByteArray) ++ dgB 16 v, 0) := by
  rw [TextR_in v n _ (by decide) hh hn, if_neg (by decide), if_pos (by decide)]
theorem TextR_3 (v n : Nat) (hh : hasF n ((3 : Nat) : Int) = true) (hn : v < 2 ^ n) : TextR v n ((3 : Nat) : Int) = ((⟨#[48, 98]⟩ : ByteArray) ++ dgB 2 v, 0) := by
  rw [TextR_in v n _ (by decide) hh hn, if_neg (by decide), if_neg (by decide), if_pos (by decide)]
theorem TextR_4 (v n : Nat) (hh : hasF n ((4 : Nat) : Int) = true) (hn : v < 2 ^ n) : TextR v n ((4 : Nat) : Int) = (joinT 4 (byL ((n + 7) / 8) v), 0) := by
  rw [TextR_in v n _ (by decide) hh hn, if_neg (by decide), if_neg (by decide), if_neg (by decide), if_pos (by decide)]
theorem TextR_5 (v n : Nat) (hh : hasF n ((5 : Nat) : Int) = true) (hn : v < 2 ^ n) : TextR v n ((5 : Nat) : Int) = (joinT 5 (byL ((n + 7) / 8) v), 0) := by
  rw [TextR_in v n _ (by decide) hh hn, if_neg (by decide), if_neg (by decide), if_neg (by decide), if_neg (by decide)]
theorem ext2 {s : ByteArray} {a b : UInt8} {r : List UInt8} (h : s.data.toList = a :: b :: r) : (s.extract 2 s.size).data.toList = r := by
  rw [Lib.extract_data, h]
  have hl := data_length s
  rw [h] at hl
  simp only [List.drop_succ_cons, List.drop_zero]
  exact List.take_of_length_le (by simp at hl; omega)
theorem not_sign : wN 120 = 99 ∧ wN 98 = 11 ∧ wN 46 = 99 ∧ wN 58 = 99 := by decide
theorem base10 {s : ByteArray} (h : ∀ c ∈ s.data.toList, wN c < 10 ∨ c = 46) : baseOf s = (10, s) := by
  apply base_no
  · intro r hr
    have := h 120 (by rw [hr]; simp)
    rw [not_sign.1] at this
    rcases this with h | h
    · omega
    · exact absurd h (by decide)
  · intro r hr
    have := h 98 (by rw [hr]; simp)
    rw [not_sign.2.1] at this
    rcases this with h | h
    · omega
    · exact absurd h (by decide)
/-- Some of the pieces' texts hold the sign. -/
theorem join_two (form : Nat) (a b : UInt8) (r : List UInt8) : (joinT form (a :: b :: r)).data.toList = (pieceT form a).data.toList ++ (if form = 4 then (46 : UInt8) else 58) :: (joinT form (b :: r)).data.toList := by
  unfold joinT joinB
  rw [sep_data]
  simp only [List.map_cons]
  rw [Lib.join_cons, Lib.join_cons]
  unfold Lib.joinTail
  simp
theorem join_chars (form : Nat) (hf : form = 4 ∨ form = 5) : ∀ (bs : List UInt8) (x : UInt8), x ∈ (joinT form bs).data.toList → x = (if form = 4 then (46 : UInt8) else 58) ∨ ∃ c, x ∈ (pieceT form c).data.toList
  | [], x, h => by simp [joinT, joinB, Lib.join_nil] at h
  | [a], x, h => by
    simp only [joinT, joinB, List.map_cons, List.map_nil, Lib.join_one] at h
    exact .inr ⟨a, h⟩
  | a :: b :: r, x, h => by
    rw [join_two] at h
    rcases List.mem_append.1 h with h | h
    · exact .inr ⟨a, h⟩
    · rcases List.mem_cons.1 h with h | h
      · exact .inl h
      · exact join_chars form hf (b :: r) x h
theorem dots_chars (c x : UInt8) (h : x ∈ (pieceT 4 c).data.toList) : wN x < 10 := by
  have hc := UInt8.toNat_lt c
  exact numT_mem 10 _ 0 _ (of_numV (num_digits 10 c.toNat (by decide) (by decide) (Nat.lt_of_lt_of_le hc (by decide)))).1 x h
theorem dec_piece (c : UInt8) : decV (pieceT 4 c) = some c.toNat := by
  have hc := UInt8.toNat_lt c
  have h := num_digits 10 c.toNat (by decide) (by decide) (Nat.lt_of_lt_of_le hc (by decide))
  unfold decV
  rw [show pieceT 4 c = dgB 10 c.toNat from rfl, h]
  dsimp only
  rw [if_pos (by omega)]
theorem hex_data (c : UInt8) : (pieceT 5 c).data.toList = [signN (c.toNat / 16), signN (c.toNat % 16)] := by
  unfold pieceT hexB
  rw [if_neg (by decide), str_data]
  simp only [List.map_cons, List.map_nil, signN]
  congr 2
theorem hex_piece (c : UInt8) : hexV (pieceT 5 c) = some c.toNat := by
  have hc := UInt8.toNat_lt c
  rw [hexV_two (hex_data c), wN_sign _ (by omega), wN_sign _ (by omega), if_pos (by omega)]
  congr 1
  omega
theorem allM_pieces (g : ByteArray → Option Nat) (form : Nat) (h : ∀ c, g (pieceT form c) = some c.toNat) : ∀ bs : List UInt8, allM g (bs.map (pieceT form)) = some (bs.map fun c => (c.toNat : Int))
  | [] => rfl
  | b :: r => by
    simp only [List.map_cons, allM]
    rw [h b, allM_pieces g form h r]
theorem str_of_bytes (bs : List UInt8) : (strOfNums (bs.map fun c => (c.toNat : Int))).data.toList = bs := by
  rw [str_data, List.map_map]
  conv => rhs; rw [← List.map_id bs]
  apply List.map_congr_left
  intro c _
  simp
theorem allM_back (g : ByteArray → Option Nat) (form : Nat) (h : ∀ p v, g p = some v → v < 256 ∧ pieceT form (UInt8.ofNat v) = p) : ∀ (ps : List ByteArray) (l : List Int), allM g ps = some l → ∃ bs : List UInt8, l = bs.map (fun c => (c.toNat : Int)) ∧ ps = bs.map (pieceT form)
  | [], l, e => by simp [allM] at e; subst e; exact ⟨[], rfl, rfl⟩
  | p :: ps, l, e => by
    simp only [allM] at e
    cases hg : g p with
    | none => rw [hg] at e; cases e
    | some v =>
      rw [hg] at e
      cases hm : allM g ps with
      | none => rw [hm] at e; cases e
      | some l' =>
        rw [hm] at e
        cases e
        obtain ⟨bs, rfl, hps⟩ := allM_back g form h ps l' hm
        obtain ⟨h1, h2⟩ := h p v hg
        exact ⟨UInt8.ofNat v :: bs, by rw [List.map_cons, UInt8.toNat_ofNat_of_lt' h1], by rw [List.map_cons, h2, hps]⟩
theorem dec_back (p : ByteArray) (v : Nat) (h : decV p = some v) : v < 256 ∧ pieceT 4 (UInt8.ofNat v) = p := by
  have hv := decV_lt p v h
  refine ⟨hv, ?_⟩
  unfold decV at h
  split at h
  · cases h
  · rename_i w hw
    split at h
    · cases h
      show dgB 10 (UInt8.ofNat v).toNat = p
      rw [UInt8.toNat_ofNat_of_lt' hv]
      exact digits_num 10 v (by decide) (by decide) (Nat.lt_of_lt_of_le hv (by decide)) p hw
    · cases h
theorem hex_back (p : ByteArray) (v : Nat) (h : hexV p = some v) : v < 256 ∧ pieceT 5 (UInt8.ofNat v) = p := by
  have hv := hexV_lt p v h
  refine ⟨hv, ?_⟩
  unfold hexV at h
  split at h
  · rename_i x y hp
    split at h
    · rename_i hxy
      cases h
      apply ext_bytes
      rw [hex_data, UInt8.toNat_ofNat_of_lt' hv, hp, show (16 * wN x + wN y) / 16 = wN x from by omega, show (16 * wN x + wN y) % 16 = wN y from by omega, sign_wN x hxy.1, sign_wN y hxy.2]
    · cases h
  · cases h
theorem byL_ints (m v : Nat) : (byL m v).map (fun c => (c.toNat : Int)) = beL m v := by
  induction m with
  | zero => rfl
  | succ m ih =>
    rw [byL_succ, List.map_cons, ih, UInt8.toNat_ofNat_of_lt' (Nat.mod_lt _ (by decide))]
    rfl
/-- A text is read as it was written. -/
theorem Parse_Text (v n : Nat) (n1 : 1 ≤ n) (n2 : n ≤ 128) (hv : v < 2 ^ n) (form : Nat) (f1 : 1 ≤ form) (f5 : form ≤ 5) (hh : hasF n form = true) : (TextR v n form).2 = 0 ∧ ParseR (TextR v n form).1 n = (pH v, pL v, 0) := by
  have hA : v < 2 ^ 128 := Nat.lt_of_lt_of_le hv (Nat.pow_le_pow_right (by decide) n2)
  rcases (show form = 1 ∨ form = 2 ∨ form = 3 ∨ form = 4 ∨ form = 5 by omega) with rfl | rfl | rfl | rfl | rfl
  · rw [TextR_1 v n hh hv]
    unfold ParseR
    refine ⟨rfl, ?_⟩
    have hd := num_digits 10 v (by decide) (by decide) hA
    rw [base10 (fun c hc => .inl (numT_mem 10 _ 0 v (of_numV hd).1 c hc)), hd]
    dsimp only
    rw [if_pos hv]
  · rw [TextR_2 v n hh hv]
    unfold ParseR
    refine ⟨rfl, ?_⟩
    have hd := num_digits 16 v (by decide) (by decide) hA
    have e : ((⟨#[48, 120]⟩ : ByteArray) ++ dgB 16 v).data.toList = 48 :: 120 :: (dgB 16 v).data.toList := by rw [ByteArray.data_append]; simp
    rw [base_x e, ext2 e, hd]
    dsimp only
    rw [if_pos hv]
  · rw [TextR_3 v n hh hv]
    unfold ParseR
    refine ⟨rfl, ?_⟩
    have hd := num_digits 2 v (by decide) (by decide) hA
    have e : ((⟨#[48, 98]⟩ : ByteArray) ++ dgB 2 v).data.toList = 48 :: 98 :: (dgB 2 v).data.toList := by rw [ByteArray.data_append]; simp
    rw [base_b e, ext2 e, hd]
    dsimp only
    rw [if_pos hv]
  · rw [TextR_4 v n hh hv]
    unfold ParseR
    refine ⟨rfl, ?_⟩
    have h32 : n = 32 := by
      have : hasF n 4 = true := hh
      unfold hasF at this
      rw [if_pos rfl] at this
      exact of_decide_eq_true this
    subst h32
    have hlen := byL_len ((32 + 7) / 8) v
    obtain ⟨a, b, r, hbs⟩ : ∃ a b r, byL ((32 + 7) / 8) v = a :: b :: r := by
      match hb : byL ((32 + 7) / 8) v, hlen with
      | a :: b :: r, _ => exact ⟨a, b, r, rfl⟩
    have hch := join_chars 4 (.inl rfl) (byL ((32 + 7) / 8) v)
    have hbase := base10 (s := joinT 4 (byL ((32 + 7) / 8) v)) (fun c hc => by
      rcases hch c hc with h | ⟨q, h⟩
      · exact .inr h
      · exact .inl (dots_chars q c h))
    have hmem : (46 : UInt8) ∈ (joinT 4 (byL ((32 + 7) / 8) v)).data.toList := by rw [hbs, join_two]; simp
    have hp := pieces_join 4 (.inl rfl) (byL ((32 + 7) / 8) v) (by rw [hbs]; simp)
    have hp' : piecesB 46 (joinT 4 (byL ((32 + 7) / 8) v)) = (byL ((32 + 7) / 8) v).map (pieceT 4) := hp
    have hby : bytesR (joinT 4 (byL ((32 + 7) / 8) v)) 32 = some (beL ((32 + 7) / 8) v) := by
      unfold bytesR
      rw [hp', if_pos ⟨rfl, by rw [List.length_map, hlen]⟩, allM_pieces decV 4 dec_piece, byL_ints]
    rw [hbase, numV_no hmem (by rw [not_sign.2.2.1]; show ¬ 99 < 10; decide), hby]
    exact From_Bytes v 32 n1 hv
  · rw [TextR_5 v n hh hv]
    unfold ParseR
    refine ⟨rfl, ?_⟩
    have h8 : n % 8 = 0 ∧ 9 ≤ n := by
      have : hasF n 5 = true := hh
      unfold hasF at this
      rw [if_neg (by decide), if_pos rfl] at this
      exact of_decide_eq_true this
    have hm : (n + 7) / 8 = n / 8 := by omega
    have hlen := byL_len ((n + 7) / 8) v
    obtain ⟨a, b, r, hbs⟩ : ∃ a b r, byL ((n + 7) / 8) v = a :: b :: r := by
      match hb : byL ((n + 7) / 8) v, hlen with
      | a :: b :: r, _ => exact ⟨a, b, r, rfl⟩
      | [], h => simp at h; omega
      | [_], h => simp at h; omega
    have hdat : (joinT 5 (byL ((n + 7) / 8) v)).data.toList = signN (a.toNat / 16) :: signN (a.toNat % 16) :: 58 :: (joinT 5 (b :: r)).data.toList := by
      rw [hbs, join_two, hex_data]; rfl
    have hp := pieces_join 5 (.inr rfl) (byL ((n + 7) / 8) v) (by rw [hbs]; simp)
    have hp' : piecesB 58 (joinT 5 (byL ((n + 7) / 8) v)) = (byL ((n + 7) / 8) v).map (pieceT 5) := hp
    have hch := join_chars 5 (.inr rfl) (byL ((n + 7) / 8) v)
    have h46 : (46 : UInt8) ∉ (joinT 5 (byL ((n + 7) / 8) v)).data.toList := fun h => by
      rcases hch 46 h with h | ⟨q, h⟩
      · exact absurd h (by decide)
      · have := piece_chars 5 (.inr rfl) q 46 h
        rw [not_sign.2.2.1] at this; omega
    have hby : bytesR (joinT 5 (byL ((n + 7) / 8) v)) n = some (beL ((n + 7) / 8) v) := by
      unfold bytesR
      have h1 : (piecesB 46 (joinT 5 (byL ((n + 7) / 8) v))).length = 1 := by unfold piecesB; rw [cutAt_self 46 _ h46]; rfl
      rw [if_neg (by rw [h1]; omega), if_pos h8]
      unfold okP
      rw [hp', if_pos (by rw [List.length_map, hlen, hm]), allM_pieces hexV 5 hex_piece, byL_ints]
    have hno : numV (baseOf (joinT 5 (byL ((n + 7) / 8) v))).1 (baseOf (joinT 5 (byL ((n + 7) / 8) v))).2.data.toList = none := by
      have h58 : (58 : UInt8) ∈ (baseOf (joinT 5 (byL ((n + 7) / 8) v))).2.data.toList := by
        by_cases hx : ∃ r, (joinT 5 (byL ((n + 7) / 8) v)).data.toList = 48 :: 120 :: r
        · obtain ⟨r', hr⟩ := hx
          rw [base_x hr, ext2 hdat]; simp
        · by_cases hb2 : ∃ r, (joinT 5 (byL ((n + 7) / 8) v)).data.toList = 48 :: 98 :: r
          · obtain ⟨r', hr⟩ := hb2
            rw [base_b hr, ext2 hdat]; simp
          · rw [base_no (fun r h => hx ⟨r, h⟩) (fun r h => hb2 ⟨r, h⟩), hdat]; simp
      refine numV_no h58 ?_
      rw [not_sign.2.2.2]
      rcases (baseOf_ok (joinT 5 (byL ((n + 7) / 8) v))).1 with h | h | h <;> omega
    rw [hno, hby]
    exact From_Bytes v n n1 hv
/-- What is read is its value's text in some form. -/
theorem Text_Parse (s : ByteArray) (n : Nat) (n1 : 1 ≤ n) (n2 : n ≤ 128) : ∃ v, v < 2 ^ n ∧ (∃ e, ParseR s n = (pH v, pL v, e)) ∧ ((ParseR s n).2.2 = 0 → ∃ form : Nat, 1 ≤ form ∧ form ≤ 5 ∧ (TextR v n form).1 = s) := by
  have hz : (0 : Nat) < 2 ^ n := Nat.two_pow_pos n
  have z0 : ((0 : Int), (0 : Int)) = (pH 0, pL 0) := rfl
  unfold ParseR
  cases hv : numV (baseOf s).1 (baseOf s).2.data.toList with
  | some v =>
    dsimp only
    by_cases hn : v < 2 ^ n
    · rw [if_pos hn]
      refine ⟨v, hn, ⟨0, rfl⟩, fun _ => ?_⟩
      have hA : v < 2 ^ 128 := Nat.lt_of_lt_of_le hn (Nat.pow_le_pow_right (by decide) n2)
      by_cases hx : ∃ r, s.data.toList = 48 :: 120 :: r
      · obtain ⟨r, hr⟩ := hx
        rw [base_x hr] at hv
        have hd := digits_num 16 v (by decide) (by decide) hA _ hv
        refine ⟨2, by decide, by decide, ?_⟩
        rw [TextR_2 v n rfl hn, hd]
        apply ext_bytes
        rw [ByteArray.data_append, Array.toList_append, ext2 hr, hr]; rfl
      · by_cases hb : ∃ r, s.data.toList = 48 :: 98 :: r
        · obtain ⟨r, hr⟩ := hb
          rw [base_b hr] at hv
          have hd := digits_num 2 v (by decide) (by decide) hA _ hv
          refine ⟨3, by decide, by decide, ?_⟩
          rw [TextR_3 v n rfl hn, hd]
          apply ext_bytes
          rw [ByteArray.data_append, Array.toList_append, ext2 hr, hr]; rfl
        · rw [base_no (fun r h => hx ⟨r, h⟩) (fun r h => hb ⟨r, h⟩)] at hv
          have hd := digits_num 10 v (by decide) (by decide) hA _ hv
          refine ⟨1, by decide, by decide, ?_⟩
          rw [TextR_1 v n rfl hn, hd]
    · rw [if_neg hn]
      exact ⟨0, hz, ⟨11, rfl⟩, fun h => absurd h (show ¬ ((11 : Int) = 0) by decide)⟩
  | none =>
    dsimp only
    cases hb : bytesR s n with
    | none => exact ⟨0, hz, ⟨12, rfl⟩, fun h => absurd h (show ¬ ((12 : Int) = 0) by decide)⟩
    | some l =>
      dsimp only
      have fin : ∀ (form : Nat) (bs : List UInt8), (form = 4 ∨ form = 5) → hasF n form = true → l = bs.map (fun c => (c.toNat : Int)) → piecesB (if form = 4 then 46 else 58) s = bs.map (pieceT form) →
          ∃ v, v < 2 ^ n ∧ (∃ e, FromR (strOfNums l) n = (pH v, pL v, e)) ∧ ((FromR (strOfNums l) n).2.2 = 0 → ∃ form : Nat, 1 ≤ form ∧ form ≤ 5 ∧ (TextR v n form).1 = s) := by
        rintro form bs hf hh rfl hp
        have hsz : (strOfNums (bs.map fun c => (c.toNat : Int))).size = bs.length := by rw [← data_length, str_of_bytes]
        unfold FromR
        rw [str_of_bytes, hsz]
        by_cases hl : bs.length = (n + 7) / 8
        · rw [if_pos hl]
          by_cases hn : beV bs 0 < 2 ^ n
          · rw [if_pos hn]
            refine ⟨_, hn, ⟨0, rfl⟩, fun _ => ⟨form, by omega, by omega, ?_⟩⟩
            have hby : byL ((n + 7) / 8) (beV bs 0) = bs := by rw [← hl]; exact byL_beV bs
            have hj := join_pieces form s bs hp
            rcases hf with rfl | rfl
            · rw [TextR_4 _ n hh hn, hby]; exact hj
            · rw [TextR_5 _ n hh hn, hby]; exact hj
          · rw [if_neg hn]
            exact ⟨0, hz, ⟨11, rfl⟩, fun h => absurd h (show ¬ ((11 : Int) = 0) by decide)⟩
        · rw [if_neg hl]
          exact ⟨0, hz, ⟨12, rfl⟩, fun h => absurd h (show ¬ ((12 : Int) = 0) by decide)⟩
      unfold bytesR at hb
      by_cases h4 : n = 32 ∧ (piecesB 46 s).length = 4
      · rw [if_pos h4] at hb
        obtain ⟨bs, h1, h2⟩ := allM_back decV 4 dec_back _ l hb
        exact fin 4 bs (.inl rfl) (by rw [h4.1]; rfl) h1 h2
      · rw [if_neg h4] at hb
        by_cases h8 : n % 8 = 0 ∧ 9 ≤ n
        · rw [if_pos h8] at hb
          unfold okP at hb
          split at hb
          · obtain ⟨bs, h1, h2⟩ := allM_back hexV 5 hex_back _ l hb
            exact fin 5 bs (.inr rfl) (by unfold hasF; rw [if_neg (by decide), if_pos (by decide)]; exact decide_eq_true h8) h1 h2
          · cases hb
        · rw [if_neg h8] at hb; cases hb
theorem Text_no_form (v n : Nat) (form : Nat) (f1 : 1 ≤ form) (f5 : form ≤ 5) (hh : hasF n form = false) : (TextR v n form).2 = 10 := by rw [TextR_has v n form (by omega) hh]
theorem text_size (v n : Nat) (n2 : n ≤ 128) (form : Nat) (f1 : 1 ≤ form) (f5 : form ≤ 5) (hh : hasF n form = true) (hn : v < 2 ^ n) : (TextR v n form).1.size ≤ 10000 := by
  rcases (show form = 1 ∨ form = 2 ∨ form = 3 ∨ form = 4 ∨ form = 5 by omega) with rfl | rfl | rfl | rfl | rfl
  · rw [TextR_1 v n hh hn]; have := dgB_size 10 v; show (dgB 10 v).size ≤ 10000; omega
  · rw [TextR_2 v n hh hn]; have := dgB_size 16 v; show (_ ++ dgB 16 v).size ≤ 10000; rw [ByteArray.size_append]; have h2 : (⟨#[48, 120]⟩ : ByteArray).size = 2 := rfl; omega
  · rw [TextR_3 v n hh hn]; have := dgB_size 2 v; show (_ ++ dgB 2 v).size ≤ 10000; rw [ByteArray.size_append]; have h2 : (⟨#[48, 98]⟩ : ByteArray).size = 2 := rfl; omega
  all_goals
    have hj : ∀ form, (joinT form (byL ((n + 7) / 8) v)).size ≤ 10000 := fun form => by
      have := joinB_len (sepT form) (sepT_size form) ((byL ((n + 7) / 8) v).map (pieceT form)) (fun p hp => by obtain ⟨c, _, rfl⟩ := List.mem_map.1 hp; exact pieceT_size form c)
      rw [List.length_map, byL_len] at this
      rw [← data_length]
      have e : (joinT form (byL ((n + 7) / 8) v)).data.toList = joinB ((byL ((n + 7) / 8) v).map (pieceT form)) (sepT form) := rfl
      rw [e]; omega
  · rw [TextR_4 v n hh hn]; exact hj 4
  · rw [TextR_5 v n hh hn]; exact hj 5
/-- Is a text that of the value in a form? -/
def PT (g n : Nat) (s : ByteArray) (form : Nat) : Bool := (TextR g n form).1.toList == s.toList
theorem back_step (X g n : Nat) (n1 : 1 ≤ n) (n2 : n ≤ 128) (hX : X < 2 ^ n) (hg : g < 2 ^ n) (s : ByteArray) (same : Bool) (i k : Nat) (i1 : 1 ≤ i) (i5 : i ≤ 5) (hk : 100 ≤ k) :
    turnoutlaw01_ValueBack.l0 (k + 2) n s true same i (pH X) (pL X) (pH g) (pL g) = turnoutlaw01_ValueBack.l0 k n s true (same || PT g n s i) ((i + 1 : Nat) : Int) (pH X) (pL X) (pH g) (pL g) := by
  have hXA : X < 2 ^ 128 := Nat.lt_of_lt_of_le hX (Nat.pow_le_pow_right (by decide) n2)
  have hgA : g < 2 ^ 128 := Nat.lt_of_lt_of_le hg (Nat.pow_le_pow_right (by decide) n2)
  have e1 : wrap64 ((i : Int) + 1) = ((i + 1 : Nat) : Int) := by unfold wrap64; omega
  have tX := own_Text X n n1 n2 hXA (i : Int) (k + 1) (by omega)
  have tg := own_Text g n n1 n2 hgA (i : Int) k (by omega)
  have last : (if same = true then turnoutlaw01_ValueBack.l0 k n s true true ((i + 1 : Nat) : Int) (pH X) (pL X) (pH g) (pL g) else turnoutlaw01_ValueBack.l0 k n s true ((TextR g n i).1.toList == s.toList) ((i + 1 : Nat) : Int) (pH X) (pL X) (pH g) (pL g)) = turnoutlaw01_ValueBack.l0 k n s true (same || PT g n s i) ((i + 1 : Nat) : Int) (pH X) (pL X) (pH g) (pL g) := by
    cases same <;> rfl
  have j3 : turnoutlaw01_ValueBack.j3 (k + 1) n s true same i (TextR X n i).1 (TextR X n i).2 (hasF n i) (pH X) (pL X) (pH g) (pL g) = turnoutlaw01_ValueBack.l0 k n s true (same || PT g n s i) ((i + 1 : Nat) : Int) (pH X) (pL X) (pH g) (pL g) := by
    simp only [turnoutlaw01_ValueBack.j3]
    rw [e1]
    cases hh : hasF n i with
    | true =>
      obtain ⟨q1, q2⟩ := Parse_Text X n n1 n2 hX i i1 i5 hh
      have hsz := text_size X n n2 i i1 i5 hh hX
      rw [q1, if_neg (by decide), if_pos rfl, own_Parse _ (by omega) n n1 n2 k (by omega), q2, Option.bind_some]
      dsimp only
      rw [if_neg (by simp), if_pos rfl, tg, Option.bind_some]
      exact last
    | false =>
      rw [Text_no_form X n i i1 i5 hh, if_neg (by decide), if_neg (by decide), tg, Option.bind_some]
      exact last
  simp only [turnoutlaw01_ValueBack.l0]
  rw [if_pos (by omega), tX, Option.bind_some]
  by_cases h3 : i ≤ 3
  · rw [if_pos (by omega)]
    have : hasF n i = true := by unfold hasF; rw [if_neg (by omega), if_neg (by omega)]
    rw [this] at j3
    exact j3
  · rw [if_neg (by omega)]
    by_cases h4 : i = 4
    · subst h4
      rw [if_pos (by decide)]
      by_cases h32 : n = 32
      · rw [if_pos (by omega)]
        have : hasF n ((4 : Nat) : Int) = true := by unfold hasF; rw [if_pos (by decide)]; exact decide_eq_true h32
        rw [this] at j3
        exact j3
      · rw [if_neg (by omega), if_neg (by decide)]
        have : hasF n ((4 : Nat) : Int) = false := by unfold hasF; rw [if_pos (by decide)]; exact decide_eq_false h32
        rw [this] at j3
        exact j3
    · have h5 : i = 5 := by omega
      subst h5
      rw [if_neg (by decide), if_pos (by decide), tmod_nat]
      by_cases h8 : n % 8 = 0
      · rw [if_pos (by omega)]
        have : hasF n ((5 : Nat) : Int) = decide ((n : Int) > 8) := by
          unfold hasF; rw [if_neg (by decide), if_pos (by decide), Bool.eq_iff_iff]; simp only [decide_eq_true_eq]; omega
        rw [this] at j3
        exact j3
      · rw [if_neg (by omega)]
        have : hasF n ((5 : Nat) : Int) = false := by unfold hasF; rw [if_neg (by decide), if_pos (by decide)]; exact decide_eq_false (fun h => h8 h.1)
        rw [this] at j3
        exact j3
theorem awake_back (k : Nat) (h : 40 ≤ k) : turnoutlaw01_awake.f k = some true := awake_texts k h
theorem ValueBack_pure (a0 a1 w : Int) (s : ByteArray) (h1 : inU a0 = true) (h2 : inU a1 = true) (hs : s.size ≤ 140737488351232) : ∃ k, turnoutlaw01_ValueBack.f k a0 a1 w s = some true := by
  refine ⟨1000, ?_⟩
  unfold turnoutlaw01_ValueBack.f
  rw [awake_back _ (by decide), Option.bind_some]
  by_cases hw : 1 ≤ w ∧ w ≤ 128
  · obtain ⟨n, rfl⟩ : ∃ n : Nat, w = n := ⟨w.toNat, by omega⟩
    have n1 : 1 ≤ n := by omega
    have n2 : n ≤ 128 := by omega
    have hX : V a0 a1 % 2 ^ n < 2 ^ n := Nat.mod_lt _ (Nat.two_pow_pos n)
    have hcut := Cut_f a0 a1 h1 h2 n n1 n2
    generalize V a0 a1 % 2 ^ n = X at hX hcut
    have hXA : X < 2 ^ 128 := Nat.lt_of_lt_of_le hX (Nat.pow_le_pow_right (by decide) n2)
    have hby := Bytes_f (pH X) (pL X) (pH_in hXA) (pL_in X) n 999 n1 n2 (by rw [V_p hXA]; exact hX) (by decide)
    rw [V_p hXA] at hby
    have hfr := own_From (strOfNums (beL ((n + 7) / 8) X)) n n1 n2 999 (by decide)
    rw [From_Bytes X n n1 hX] at hfr
    have hsz := byL_size ((n + 7) / 8) X
    rw [if_neg (by omega), decide_eq_false (by omega)]
    simp only [turnoutlaw01_ValueBack.j0]
    rw [if_neg (by decide), hcut, Option.bind_some]
    dsimp only
    rw [hby, Option.bind_some]
    dsimp only
    rw [hfr, Option.bind_some]
    dsimp only
    rw [if_pos rfl, if_pos rfl, if_neg (by simp), long_nat n n2, hsz]
    have e : ((((n + 7) / 8 : Nat) : Int) != (((n + 7) / 8 : Nat) : Int)) = false := by simp
    rw [e]
    simp only [turnoutlaw01_ValueBack.j1]
    obtain ⟨g, hg, ⟨er, hp⟩, hback⟩ := Text_Parse s n n1 n2
    rw [if_neg (by decide), own_Parse s hs n n1 n2 998 (by decide), hp, Option.bind_some]
    dsimp only
    have s1 := fun same => back_step X g n n1 n2 hX hg s same 1 996 (by decide) (by decide) (by decide)
    have s2 := fun same => back_step X g n n1 n2 hX hg s same 2 994 (by decide) (by decide) (by decide)
    have s3 := fun same => back_step X g n n1 n2 hX hg s same 3 992 (by decide) (by decide) (by decide)
    have s4 := fun same => back_step X g n n1 n2 hX hg s same 4 990 (by decide) (by decide) (by decide)
    have s5 := fun same => back_step X g n n1 n2 hX hg s same 5 988 (by decide) (by decide) (by decide)
    have fin : ∀ same, turnoutlaw01_ValueBack.l0 988 n s true same ((5 + 1 : Nat) : Int) (pH X) (pL X) (pH g) (pL g) = some same := fun same => by
      simp only [turnoutlaw01_ValueBack.l0]
      rw [if_neg (by decide), if_pos trivial]
    refine (s1 _).trans ((s2 _).trans ((s3 _).trans ((s4 _).trans ((s5 _).trans ((fin _).trans ?_)))))
    congr 1
    rw [hp] at hback
    by_cases he : er = 0
    · obtain ⟨form, f1, f5, hf⟩ := hback he
      have hP : PT g n s form = true := by unfold PT; rw [hf]; simp
      rcases (show form = 1 ∨ form = 2 ∨ form = 3 ∨ form = 4 ∨ form = 5 by omega) with rfl | rfl | rfl | rfl | rfl <;> rw [hP] <;> simp
    · have : (er != 0) = true := by rw [bne_iff_ne]; exact he
      rw [this]; simp
  · by_cases hlo : w < 1
    · rw [if_pos hlo]; simp only [turnoutlaw01_ValueBack.j0]; rw [if_pos trivial]
    · rw [if_neg hlo, decide_eq_true (by omega)]; simp only [turnoutlaw01_ValueBack.j0]; rw [if_pos trivial]
end Go.Proofs.YtofnhgpiipmegaaDoor.PV
namespace Go.Proofs.YtofnhgpiipmegaaDoor.fnValueBack
open Go.ChangeShapes Go.WideShapes Go.ChangeAt Go.RowKit Go.Proofs.YtofnhgpiipmegaaDoor.PV
theorem u9 : Tryd.prog.underlying 9 = some .string := by kernel_rfl
set_option maxRecDepth 100000 in
theorem contract (H : Type) (enc : TypeId × Value → H) (W : World) (base : Nat) (args : Array Value) (ds gs : List (DataW H)) (before : List MemPlace)
    (hval : ∀ (j : Nat) t v, Tryd.f4.params[j]? = some t → args[j]? = some v → Value.okWide Tryd.prog W .any base t v)
    (hW : DataW.Whole enc Tryd.prog Tryd.f4.params.toList Rows.valueBackSpec.vars false W args.toList ds gs before) (hsz : (DataW.weightsEach Tryd.prog (Tryd.f4.params.toList ++ (OpenSpec.ofChange Rows.valueBackSpec).bare.plain.varTypes Tryd.prog) (ds ++ gs)).all (· ≤ reachBytes) = true) (hL : laidMetH Tryd.prog Rows.valueBackRow.laid W) :
    Calls Tryd.prog 4 args W fun e W' => ∃ v, e = .returned v ∧ Rows.valueBackSpec.post enc Tryd.prog Tryd.f4 false true false false W args v W' := by
  have hW' := hW
  obtain ⟨p, q, hA0, hV, rfl, hfz, hnd⟩ := hW
  have hA : DataW.TrodAll enc Tryd.prog W 0 (fun _ => true) true Tryd.f4.params.toList args.toList ds p := hA0
  have hp : Tryd.f4.params = #[24, 3, 9] := by kernel_rfl
  rw [hp] at hA hval
  obtain ⟨v0, vs0, d0, ds0, p0, q0, hargs, rfl, rfl, h0, r0⟩ := trodAll_cons hA
  obtain ⟨v1, vs1, d1, ds1, p1, q1, rfl, rfl, rfl, h1, r1⟩ := trodAll_cons r0
  obtain ⟨v2, vs2, d2, ds2, p2, q2, rfl, rfl, rfl, h2, r2⟩ := trodAll_cons r1
  obtain ⟨rfl, rfl, rfl⟩ := trodAll_nil r2
  obtain rfl : args = #[v0, v1, v2] := by cases args; simp_all
  obtain ⟨rfl, rfl⟩ := trodVars_none hV
  obtain ⟨x0, y0, rfl, rfl, rfl, wx0, wy0⟩ := open_bits (hval 0 24 v0 rfl rfl) h0
  obtain ⟨n, rfl, rfl, rfl, wn⟩ := open_int u3 (hval 1 3 v1 rfl rfl) h1
  obtain ⟨s, rfl, rfl, rfl, ws⟩ := Go.ChangeMaps.open_string u9 (hval 2 9 v2 rfl rfl) h2
  have hs : s.size ≤ 140737488351232 := by
    have z := sized_string hsz (j := 2) (t := 9) (by rw [hp]; rfl) rfl
    rw [Array.length_toList] at z
    exact z
  clear hA0
  simp only [List.append_nil] at hW'
  obtain ⟨k, hk⟩ := ValueBack_pure x0 y0 n s (wf_inU wx0) (wf_inU wy0) hs
  refine (turnoutlaw01_ValueBack.calls k x0 y0 n s true W (globals_of hL) hk ⟨rfl⟩).mono fun e W' ⟨he, hb⟩ => ?_
  subst he
  refine ⟨_, rfl, post_of_below (pr := []) (pa := []) (pv := []) hW' ?_ ?_ ?_ (fun _ h => by cases h) hb⟩
  · exact trodAll_cons_mk (shut_bool u4 _) trodAll_mk0
  · exact trodAll_cons_mk (shut_bits wx0 wy0) (trodAll_cons_mk (shut_int u3 wn) (trodAll_cons_mk (Go.ChangeMaps.shut_string u9 ws) trodAll_mk0))
  · rfl
theorem reads (os : Os) {H : Type} (enc : TypeId × Value → H) : ∃ places, DataW.whole enc Tryd.prog ((laidWorld os).forCall (fun _ _ => 0) ⟨#[], #[.agg #[.int .u64 0, .int .u64 0], .int .i64 0, .string ⟨#[]⟩], []⟩).memory Tryd.f4.params.toList Rows.valueBackSpec.vars false #[Value.agg #[.int .u64 0, .int .u64 0], .int .i64 0, .string ⟨#[]⟩].toList 8 = some ([.agg [.lit (.int .u64 0), .lit (.int .u64 0)], .lit (.int .i64 0), .lit (.string [])], [], places) :=
  ⟨[], by kernel_rfl⟩
set_option maxRecDepth 100000 in
theorem lifted (os : Os) (started : os.Started) (H : Type) (enc : TypeId × Value → H) (F : Stop.Interp) :
    ReturnsInHanded {} Tryd.checked os 4 .any ((OpenSpec.ofChange Rows.valueBackSpec).preRow enc Tryd.prog Tryd.f4 Rows.valueBackRow.domain false Rows.valueBackRow.laid) (((OpenSpec.ofChange Rows.valueBackSpec).at F).post enc Tryd.prog Tryd.f4 false true false false) := by
  obtain ⟨places, hx⟩ := reads os enc
  refine returnsInHanded_of_row (C := Tryd.checked) (s := OpenSpec.ofChange Rows.valueBackSpec) own started (by kernel_rfl) Tryd.func4
    (witness_zip (enc := enc) os #[.agg #[.int .u64 0, .int .u64 0], .int .i64 0, .string ⟨#[]⟩] (by kernel_rfl)
      (OpenSpec.preRow_of_cond 8 hx (by kernel_rfl) (fun k hk => by cases hk) (by kernel_rfl) (laid_metH os _))) ?_
  intro W base args ds gs before hval hW _ _ hsz hL _ _
  exact contract H enc W base args ds gs before hval hW hsz hL
theorem said : Rows.ValueBackSaid :=
  OpenClaim.holds_of_cond 4 Tryd.f4 rfl rfl rfl rfl rfl rfl rfl ⟨rfl, rfl, rfl, rfl, rfl⟩ rfl rfl rfl rfl rfl (by kernel_rfl) Tryd.func4 (by kernel_rfl)
    (of_decide_eq_true (by kernel_rfl)) (by unfold Func.isWrapper; first | (rw [if_pos (by decide +kernel)]; kernel_rfl) | (rw [if_neg (by decide +kernel)]; exact ⟨rfl, rfl⟩))
    (fun os started H enc _ F => by rw [OpenClaim.pre_eq_preRow]; exact lifted os started H enc F)
theorem plain (f : FuncId) (fn : Func) (hf : Tryd.pinned.checked.prog.funcNamed "turnout/turnoutlaw01.ValueBack" = some f) (hfn : Tryd.pinned.checked.prog.funcs[f]? = some fn) :
    false = Tryd.pinned.checked.prog.looks [] ∧ ∀ (j : Nat) t, fn.params[j]? = some t → Tryd.pinned.checked.prog.wantsStandIn t = false := by
  obtain rfl : f = 4 := Option.some.inj ((show Tryd.prog.funcNamed "turnout/turnoutlaw01.ValueBack" = some 4 by kernel_rfl).symm.trans hf) |>.symm
  obtain rfl : fn = Tryd.f4 := (Option.some.inj (Tryd.func4.symm.trans hfn)).symm
  refine ⟨by kernel_rfl, fun j t ht => ?_⟩
  have hp : Tryd.f4.params = #[24, 3, 9] := by kernel_rfl
  rw [hp] at ht
  have hm := Array.mem_of_getElem? ht
  simp only [List.mem_toArray, List.mem_cons, List.not_mem_nil, or_false] at hm
  rcases hm with rfl | rfl | rfl
  · exact (show Tryd.prog.wantsStandIn 24 = false by kernel_rfl)
  · exact (show Tryd.prog.wantsStandIn 3 = false by kernel_rfl)
  · exact (show Tryd.prog.wantsStandIn 9 = false by kernel_rfl)
/-- The card. -/
theorem card : Rows.ValueBackCardSaid :=
  Claim7.holds_tied_plain_at .later [] _ _ _ _ said (fun _ h => by cases h) (by kernel_rfl) (fun _ h => by cases h) valueBack_row_tie rfl ⟨rfl, rfl⟩ (by kernel_rfl) rfl plain (by kernel_rfl)
end Go.Proofs.YtofnhgpiipmegaaDoor.fnValueBack
#print axioms Go.Proofs.YtofnhgpiipmegaaDoor.fnValueBack.card
