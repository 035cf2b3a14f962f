/- The reference's division by a small number, bit by bit. -/
import Derived.Test.YtofnhgpiipmegaaDoorHRefC
namespace Go.Proofs.YtofnhgpiipmegaaDoor.PV
open Go.RowKit Go.Proofs.YtofnhgpiipmegaaDoorW.PrintWords Go.Proofs.YtofnhgpiipmegaaDoorW.PrintLast Go.Proofs.YtofnhgpiipmegaaDoorW.PrintMore
set_option linter.unusedVariables false
set_option linter.unusedSimpArgs false
/-- What is left behind k bits; the quotient's bits so far. -/
def dvL (x : List Bool) (b : Int) : Nat → Int
  | 0 => 0
  | k + 1 => let v := 2 * dvL x b k + (if x.getD k false then 1 else 0); if b ≤ v then v - b else v
def dvO (x : List Bool) (b : Int) : Nat → List Bool
  | 0 => List.replicate 128 false
  | k + 1 => if b ≤ 2 * dvL x b k + (if x.getD k false then 1 else 0) then (dvO x b k).set k true else dvO x b k
theorem dvO_length (x : List Bool) (b : Int) (k : Nat) : (dvO x b k).length = 128 := by
  induction k with
  | zero => simp [dvO]
  | succ k ih =>
    have e : dvO x b (k + 1) = if b ≤ 2 * dvL x b k + (if x.getD k false then 1 else 0) then (dvO x b k).set k true else dvO x b k := rfl
    by_cases h : b ≤ 2 * dvL x b k + (if x.getD k false then 1 else 0)
    · rw [e, if_pos h, List.length_set, ih]
    · rw [e, if_neg h, ih]
theorem dvL_bd (x : List Bool) (b : Int) (hb : 1 ≤ b) (k : Nat) : 0 ≤ dvL x b k ∧ dvL x b k < b := by
  induction k with
  | zero => simp [dvL]; omega
  | succ k ih =>
    have e : dvL x b (k + 1) = if b ≤ 2 * dvL x b k + (if x.getD k false then 1 else 0) then 2 * dvL x b k + (if x.getD k false then 1 else 0) - b else 2 * dvL x b k + (if x.getD k false then 1 else 0) := rfl
    rw [e]
    split <;> split <;> omega
def turnoutref01_divided.f (a0_0 a0_1 a1 : Int) : Option (Int × Int × Int) :=
  if 1 ≤ a1 ∧ a1 ≤ 1048576 then some (takeHi (dvO (layL a0_0 a0_1) a1 128), takeLo (dvO (layL a0_0 a0_1) a1 128), dvL (layL a0_0 a0_1) a1 128) else none
def DivRel (w : World) (x : List Bool) (b : Int) (k g6 : Nat) (wr : World) : Prop :=
  wr.heap[w.heap.size + 1]? = some (.cells #[.int .u64 0, .int .u64 0] 24 (0, 0)) ∧ wr.heap[g6]? = some (.cells (bcells x) 69 (0, 0)) ∧ wr.heap[g6 + 1]? = some (.cells (bcells (dvO x b k)) 69 (0, 0)) ∧ Below w.heap.size w wr
set_option maxHeartbeats 8000000 in
set_option maxRecDepth 100000 in
theorem turnoutref01_divided.calls (a0_0 a0_1 a1 r1 r2 r3 : Int) (w : World) (h : turnoutref01_divided.f a0_0 a0_1 a1 = some (r1, r2, r3)) :
    Calls Tryd.prog 72 #[.agg #[.int .u64 a0_0, .int .u64 a0_1], .int .i64 a1] w fun e w' => e = .returned (.tuple #[.agg #[.int .u64 r1, .int .u64 r2], .int .i64 r3]) ∧ Below w.heap.size w w' := by
  have hu24 := Tryd.underlying24
  unfold turnoutref01_divided.f at h
  split at h
  case isFalse => exact absurd h (by simp)
  rename_i ha
  obtain ⟨ha1, ha2⟩ := ha
  obtain ⟨X, hX⟩ : ∃ X, layL a0_0 a0_1 = X := ⟨_, rfl⟩
  have lx : X.length = 128 := by rw [← hX, layL_length]
  rw [hX] at h
  simp only [Option.some.injEq, Prod.mk.injEq] at h
  obtain ⟨h1, h2, h3⟩ := h
  have C7 := Aside0.mk (fun w => lay_calls a0_0 a0_1 w)
  rw [hX] at C7
  have LX := Aside0.mk lx
  have C9 := Aside0.mk (fun w => take_callsR (dvO X a1 128) (dvO_length _ _ _) r1 r2 ⟨h1, h2⟩ w)
  have S9 := Aside0.mk (size69 (dvO X a1 128) (dvO_length _ _ _))
  have H3 := Aside0.mk h3
  clear h1 h2 h3 hX lx
  go_enter Tryd.func72, Tryd.ntmps72
  go_wp2_with fail
  refine (C7.out _).mono ?_
  rintro e w1 ⟨rfl, hb⟩
  have HB1 := Aside0.mk (below_step (below_alloc (below_alloc (Below.refl w.heap.size w) _) _) hb)
  have B4 := Aside0.mk (blk_below (heap_alloc2_new w _ _) hb)
  have hs6 := Aside0.mk (blk_lt B4.out)
  clear hb
  go_wp2_with (first | refine wpList_store_fresh rfl 69 _ _ rfl rfl rfl _ rfl 69 _ (size69 _ LX.out) (same69 _ LX.out) (bcells_one _) ?_)
  go_loopw [8, 9] (fun l i wr => ∃ k : Nat, k ≤ 128 ∧ i = .int .i64 k ∧ l = .int .i64 (dvL X a1 k) ∧ DivRel w X a1 k w1.heap.size wr) (fun _ i _ => 128 - (intOf i).toNat)
  case atStart =>
    refine ⟨0, by omega, rfl, rfl, blk_alloc (blk_alloc B4.out _) _, blk_alloc (blk_new _ _) _, ?_, below_alloc (below_alloc HB1.out _) _⟩
    have e : dvO X a1 0 = List.replicate 128 false := rfl
    rw [e, ← zero69]; exact heap_alloc2_new _ _ _
  case round =>
    obtain ⟨k, hk, rfl, rfl, b4, b6, b7, hb⟩ := hrel
    by_cases hlt : k < 128
    · have hlt' : (k : Int) < 128 := by omega
      have hz6 : wr.cell? ⟨w1.heap.size, k, none⟩ = some (.bool (X.getD k false)) := (blk_cell b6 _).trans (bcells_get _ _ (by have := LX.out; omega))
      have hz7 : wr.cell? ⟨w1.heap.size + 1, k, none⟩ = some (.bool ((dvO X a1 k).getD k false)) := (blk_cell b7 _).trans (bcells_get _ _ (by rw [dvO_length]; omega))
      have hf7 := blk_frozen b7 k
      have b10 := blk_set b7 k (.bool true)
      rw [bcells_set] at b10
      have B4' := Aside0.mk (blk_far b4 (p := ⟨w1.heap.size + 1, k, none⟩) (by have := hs6.out; simp only []; omega) (.bool true))
      have B6' := Aside0.mk (blk_far b6 (p := ⟨w1.heap.size + 1, k, none⟩) (by have := hs6.out; simp only []; omega) (.bool true))
      have B10 := Aside0.mk b10
      have B4 := Aside0.mk b4
      have B6 := Aside0.mk b6
      have B7 := Aside0.mk b7
      have HB := Aside0.mk hb
      obtain ⟨hd1, hd2⟩ := dvL_bd X a1 ha1 k
      have hL : dvL X a1 (k + 1) = if a1 ≤ 2 * dvL X a1 k + (if X.getD k false then 1 else 0) then 2 * dvL X a1 k + (if X.getD k false then 1 else 0) - a1 else 2 * dvL X a1 k + (if X.getD k false then 1 else 0) := rfl
      have hO : dvO X a1 (k + 1) = if a1 ≤ 2 * dvL X a1 k + (if X.getD k false then 1 else 0) then (dvO X a1 k).set k true else dvO X a1 k := rfl
      clear b4 b6 b7 b10 hb
      cases h1 : X.getD k false
      all_goals
        rw [h1] at hz6 hL hO
        simp only [Bool.false_eq_true, if_false, if_true] at hL hO
        clear h1
      · by_cases hc : a1 ≤ dvL X a1 k * 2
        · rw [if_pos (by omega)] at hL hO
          have HL := Aside0.mk hL
          have HO := Aside0.mk hO
          have t1 : decide (a1 ≤ dvL X a1 k * 2) = true := decide_eq_true hc
          clear hL hO
          generalize dvL X a1 k = L at *
          go_wp2
          go_roundw
          case rel => exact ⟨k + 1, by omega, by go_num, by rw [HL.out]; congr 1; omega, B4'.out, B6'.out, by rw [HO.out]; exact B10.out, below_set HB.out (by have := hs6.out; omega)⟩
          case measure => simp [intOf]; omega
        · rw [if_neg (by omega)] at hL hO
          have HL := Aside0.mk hL
          have HO := Aside0.mk hO
          have t1 : decide (a1 ≤ dvL X a1 k * 2) = false := decide_eq_false hc
          clear hL hO
          generalize dvL X a1 k = L at *
          go_wp2
          go_roundw
          case rel => exact ⟨k + 1, by omega, by go_num, by rw [HL.out]; congr 1; omega, B4.out, B6.out, by rw [HO.out]; exact B7.out, HB.out⟩
          case measure => simp [intOf]; omega
      · by_cases hc : a1 ≤ dvL X a1 k * 2 + 1
        · rw [if_pos (by omega)] at hL hO
          have HL := Aside0.mk hL
          have HO := Aside0.mk hO
          have t1 : decide (a1 ≤ dvL X a1 k * 2 + 1) = true := decide_eq_true hc
          clear hL hO
          generalize dvL X a1 k = L at *
          go_wp2
          go_roundw
          case rel => exact ⟨k + 1, by omega, by go_num, by rw [HL.out]; congr 1; omega, B4'.out, B6'.out, by rw [HO.out]; exact B10.out, below_set HB.out (by have := hs6.out; omega)⟩
          case measure => simp [intOf]; omega
        · rw [if_neg (by omega)] at hL hO
          have HL := Aside0.mk hL
          have HO := Aside0.mk hO
          have t1 : decide (a1 ≤ dvL X a1 k * 2 + 1) = false := decide_eq_false hc
          clear hL hO
          generalize dvL X a1 k = L at *
          go_wp2
          go_roundw
          case rel => exact ⟨k + 1, by omega, by go_num, by rw [HL.out]; congr 1; omega, B4.out, B6.out, by rw [HO.out]; exact B7.out, HB.out⟩
          case measure => simp [intOf]; omega
    · obtain rfl : 128 = k := by omega
      have B4 := Aside0.mk b4
      have HB := Aside0.mk hb
      clear b4 b6 hb
      have E3 := Aside0.mk H3.out
      go_wp2_with (first | refine wpList_load_row rfl 69 _ rfl _ rfl 69 _ _ _ b7 Tryd.underlying69 rfl S9.out ?_)
      refine (C9.out _).mono ?_
      rintro e w3 ⟨rfl, hb3⟩
      have b43 := blk_below B4.out hb3
      have hcz0 : w3.cell? ⟨w.heap.size + 1, 0, none⟩ = some (.int .u64 0) := (blk_cell b43 0).trans rfl
      have hcz1 : w3.cell? ⟨w.heap.size + 1, 1, none⟩ = some (.int .u64 0) := (blk_cell b43 1).trans rfl
      have hfz0 := blk_frozen b43 0
      have hfz1 := blk_frozen b43 1
      have B43 := Aside0.mk b43
      have HB3 := Aside0.mk (below_step HB.out hb3)
      clear b43 hb3 b7
      go_wp2
      refine bodyPost_ret (results_ct rfl _ _ (w.heap.size + 1) 24 #[.int .u64 r1, .int .u64 r2] (0, 0) _ rfl (blk_put (cs := #[_, _]) (blk_put (cs := #[_, _]) B43.out 0 _ rfl) 1 _ rfl) Tryd.underlying24 rfl (by kernel_rfl)) rfl ?_
      exact ⟨by rw [← E3.out]; rfl, below_set (below_set HB3.out (by omega)) (by omega)⟩
end Go.Proofs.YtofnhgpiipmegaaDoor.PV
