/- The reference's functions over layouts of 128 bits, continued: Bit, Add, Sub. -/
import Derived.Test.YtofnhgpiipmegaaDoorHRef
namespace Go.Proofs.YtofnhgpiipmegaaDoor.PV
open Go.RowKit Go.Proofs.YtofnhgpiipmegaaDoorW.PrintWords Go.Proofs.YtofnhgpiipmegaaDoorW.PrintLast Go.Proofs.YtofnhgpiipmegaaDoorW.PrintMore
set_option linter.unusedVariables false
set_option linter.unusedSimpArgs false
def turnoutref01_Bit.f (a0_0 a0_1 a1 a2 : Int) : Option Bool :=
  if 1 ≤ a1 ∧ a1 ≤ 128 then (if 0 ≤ a2 ∧ a2 < a1 then some ((layL a0_0 a0_1).getD (128 - a1.toNat + a2.toNat) false) else some false) else some false
set_option maxHeartbeats 8000000 in
set_option maxRecDepth 100000 in
theorem turnoutref01_Bit.calls (a0_0 a0_1 a1 a2 : Int) (r : Bool) (w : World) (h : turnoutref01_Bit.f a0_0 a0_1 a1 a2 = some r) :
    Calls Tryd.prog 37 #[.agg #[.int .u64 a0_0, .int .u64 a0_1], .int .i64 a1, .int .i64 a2] w fun e w' => e = .returned (.bool r) ∧ Below w.heap.size w w' := by
  have hu24 := Tryd.underlying24
  unfold turnoutref01_Bit.f at h
  have HB := Aside0.mk (below_alloc (Below.refl w.heap.size w) (.cells #[.int .u64 a0_0, .int .u64 a0_1] 24))
  by_cases hw : 1 ≤ a1 ∧ a1 ≤ 128
  · rw [if_pos hw] at h
    have A := Aside0.mk (width_yes hw)
    by_cases hn : 0 ≤ a2 ∧ a2 < a1
    · rw [if_pos hn] at h
      obtain ⟨m, rfl⟩ : ∃ n : Nat, a1 = n := ⟨a1.toNat, by omega⟩
      obtain ⟨n, rfl⟩ : ∃ n : Nat, a2 = n := ⟨a2.toNat, by omega⟩
      rw [Int.toNat_natCast, Int.toNat_natCast] at h
      have R := Aside0.mk (Option.some.inj h)
      have hm1 : 1 ≤ m := by omega
      have hm2 : m ≤ 128 := by omega
      have hnm : n < m := by omega
      have t1 : decide ((n : Int) < 0) = false := decide_eq_false (by omega)
      have t2 : decide ((m : Int) ≤ (n : Int)) = false := decide_eq_false (by omega)
      have t3 : decide (m ≤ n) = false := decide_eq_false (by omega)
      clear h hw hn
      go_enter Tryd.func37, Tryd.ntmps37
      go_wp2_with fail
      refine (turnoutref01_Width.calls _ true _ A.out).mono ?_
      rintro e w1 ⟨rfl, ⟨nd, rfl⟩⟩
      go_wp2_with fail
      refine (lay_calls a0_0 a0_1 _).mono ?_
      rintro e w1 ⟨rfl, hb⟩
      have HB1 := Aside0.mk (below_step (pw_below_drewN HB.out nd) hb)
      have hcz : (w1.alloc (.cells (bcells (layL a0_0 a0_1)) 69 (0, 0))).cell? ⟨w1.heap.size, 128 - m + n, none⟩ = some (.bool r) := by
        rw [blk_cell (blk_new _ _), bcells_get _ _ (by rw [layL_length]; omega), R.out]
      clear hb
      go_wp2_with (refine wpList_store_fresh rfl 69 _ _ rfl rfl rfl _ rfl 69 _ (size69 _ (layL_length _ _)) (same69 _ (layL_length _ _)) (bcells_one _) ?_)
      go_ret
      exact ⟨rfl, below_alloc HB1.out _⟩
    · rw [if_neg hn] at h
      obtain rfl := Option.some.inj h
      by_cases hneg : a2 < 0
      · have t1 : decide (a2 < 0) = true := decide_eq_true hneg
        clear hn hw hneg h
        go_enter Tryd.func37, Tryd.ntmps37
        go_wp2_with fail
        refine (turnoutref01_Width.calls _ true _ A.out).mono ?_
        rintro e w1 ⟨rfl, ⟨nd, rfl⟩⟩
        go_wp2
        go_ret
        exact ⟨rfl, pw_below_drewN HB.out nd⟩
      · have t1 : decide (a2 < 0) = false := decide_eq_false hneg
        have t2 : decide (a1 ≤ a2) = true := decide_eq_true (by omega)
        clear hn hw hneg h
        go_enter Tryd.func37, Tryd.ntmps37
        go_wp2_with fail
        refine (turnoutref01_Width.calls _ true _ A.out).mono ?_
        rintro e w1 ⟨rfl, ⟨nd, rfl⟩⟩
        go_wp2
        go_ret
        exact ⟨rfl, pw_below_drewN HB.out nd⟩
  · rw [if_neg hw] at h
    obtain rfl := Option.some.inj h
    have A := Aside0.mk (width_no hw)
    clear hw h
    go_enter Tryd.func37, Tryd.ntmps37
    go_wp2_with fail
    refine (turnoutref01_Width.calls _ false _ A.out).mono ?_
    rintro e w1 ⟨rfl, ⟨nd, rfl⟩⟩
    go_wp2
    go_ret
    exact ⟨rfl, pw_below_drewN HB.out nd⟩
/-! Add -/
/-- The carry behind k rounds, from the lowest bit on; the bits of the sum so far. -/
def cyR (x y : List Bool) : Nat → Bool
  | 0 => false
  | k + 1 => (x.getD (127 - k) false && y.getD (127 - k) false) || (x.getD (127 - k) false && cyR x y k) || (y.getD (127 - k) false && cyR x y k)
def smR (x y : List Bool) : Nat → List Bool
  | 0 => List.replicate 128 false
  | k + 1 => (smR x y k).set (127 - k) ((x.getD (127 - k) false != y.getD (127 - k) false) != cyR x y k)
theorem smR_length (x y : List Bool) (k : Nat) : (smR x y k).length = 128 := by
  induction k with
  | zero => simp [smR]
  | succ k ih => simp [smR, ih]
def turnoutref01_Add.f (a0_0 a0_1 a1_0 a1_1 a2 : Int) : Option (Int × Int) :=
  turnoutref01_Cut.f (takeHi (smR (layL a0_0 a0_1) (layL a1_0 a1_1) 128)) (takeLo (smR (layL a0_0 a0_1) (layL a1_0 a1_1) 128)) a2
def AddRel (w : World) (x y : List Bool) (k g7 g8 g9 : Nat) (wr : World) : Prop :=
  wr.heap[w.heap.size + 1 + 1]? = some (.cells #[.int .u64 0, .int .u64 0] 24 (0, 0)) ∧ wr.heap[g7]? = some (.cells (bcells x) 69 (0, 0)) ∧ wr.heap[g8]? = some (.cells (bcells y) 69 (0, 0)) ∧ wr.heap[g9]? = some (.cells (bcells (smR x y k)) 69 (0, 0)) ∧ Below w.heap.size w wr
theorem heap_alloc3_new (w : World) (A B C : Obj) : (((w.alloc A).alloc B).alloc C).heap[w.heap.size + 1 + 1]? = some C := by
  have h := heap_alloc2_new (w.alloc A) B C
  rwa [World.size_alloc] at h
theorem below_blk {w w1 W : World} {g : Nat} {o : Obj} (hb : Below W.heap.size W w1) (h : W.heap[g]? = some o) : w1.heap[g]? = some o := blk_below h hb
set_option maxHeartbeats 8000000 in
set_option maxRecDepth 100000 in
theorem turnoutref01_Add.calls (a0_0 a0_1 a1_0 a1_1 a2 r1 r2 : Int) (w : World) (h : turnoutref01_Add.f a0_0 a0_1 a1_0 a1_1 a2 = some (r1, r2)) :
    Calls Tryd.prog 35 #[.agg #[.int .u64 a0_0, .int .u64 a0_1], .agg #[.int .u64 a1_0, .int .u64 a1_1], .int .i64 a2] w fun e w' => e = .returned (.agg #[.int .u64 r1, .int .u64 r2]) ∧ Below w.heap.size w w' := by
  have hu24 := Tryd.underlying24
  unfold turnoutref01_Add.f at h
  obtain ⟨X, hX⟩ : ∃ X, layL a0_0 a0_1 = X := ⟨_, rfl⟩
  obtain ⟨Y, hY⟩ : ∃ Y, layL a1_0 a1_1 = Y := ⟨_, rfl⟩
  have lx : X.length = 128 := by rw [← hX, layL_length]
  have ly : Y.length = 128 := by rw [← hY, layL_length]
  rw [hX, hY] at h
  have A := Aside0.mk h
  have C7 := Aside0.mk (fun w => lay_calls a0_0 a0_1 w)
  have C8 := Aside0.mk (fun w => lay_calls a1_0 a1_1 w)
  rw [hX] at C7
  rw [hY] at C8
  have LX := Aside0.mk lx
  have LY := Aside0.mk ly
  clear h hX hY lx ly
  go_enter Tryd.func35, Tryd.ntmps35
  go_wp2_with fail
  refine (C7.out _).mono ?_
  rintro e w1 ⟨rfl, hb⟩
  have b6 := blk_below (heap_alloc3_new w _ _ _) hb
  have HB1 := Aside0.mk (below_step (below_alloc (below_alloc (below_alloc (Below.refl w.heap.size w) _) _) _) hb)
  have hb4 : w1.cell? ⟨w.heap.size + 1, 0, none⟩ = some (.int .u64 a1_0) := by
    rw [hb.cell (p := ⟨w.heap.size + 1, 0, none⟩) (by simp only [World.size_alloc]; omega)]
    exact (blk_cell (blk_alloc (heap_alloc2_new w _ _) _) 0).trans rfl
  have hb5 : w1.cell? ⟨w.heap.size + 1, 1, none⟩ = some (.int .u64 a1_1) := by
    rw [hb.cell (p := ⟨w.heap.size + 1, 1, none⟩) (by simp only [World.size_alloc]; omega)]
    exact (blk_cell (blk_alloc (heap_alloc2_new w _ _) _) 1).trans rfl
  have hs7 := Aside0.mk (blk_lt b6)
  have hlt1 : w.heap.size + 1 < w1.heap.size := by have := hs7.out; omega
  have B6 := Aside0.mk b6
  clear hb b6
  go_wp2_with (first | refine wpList_store_fresh rfl 69 _ _ rfl rfl rfl _ rfl 69 _ (size69 _ LX.out) (same69 _ LX.out) (bcells_one _) ?_)
  refine (C8.out _).mono ?_
  rintro e w2 ⟨rfl, hb⟩
  have b6 := blk_below (blk_alloc B6.out _) hb
  have b7 := blk_below (blk_new w1 _) hb
  have HB2 := Aside0.mk (below_step (below_alloc HB1.out _) hb)
  have hs8 := Aside0.mk (blk_lt b7)
  have B6 := Aside0.mk b6
  have B7 := Aside0.mk b7
  clear hb b6 b7 hb4 hb5 HB1
  go_wp2_with (first | refine wpList_store_fresh rfl 69 _ _ rfl rfl rfl _ rfl 69 _ (size69 _ LY.out) (same69 _ LY.out) (bcells_one _) ?_)
  go_loopw [10, 11] (fun c i wr => ∃ k : Nat, k ≤ 128 ∧ i = .int .i64 (127 - k) ∧ c = .bool (cyR X Y k) ∧ AddRel w X Y k w1.heap.size w2.heap.size (w2.heap.size + 1) wr) (fun _ i _ => (intOf i + 1).toNat)
  case atStart =>
    refine ⟨0, by omega, rfl, rfl, blk_alloc (blk_alloc B6.out _) _, blk_alloc (blk_alloc B7.out _) _, blk_alloc (blk_new _ _) _, ?_, below_alloc (below_alloc HB2.out _) _⟩
    have e : smR X Y 0 = List.replicate 128 false := rfl
    rw [e, ← zero69]; exact heap_alloc2_new _ _ _
  case round =>
      obtain ⟨k, hk, rfl, rfl, b6, b7, b8, b9, hb⟩ := hrel
      by_cases hlt : k < 128
      · have hge : (0 : Int) ≤ 127 - (k : Int) := by omega
        have hz7 : wr.cell? ⟨w1.heap.size, 127 - k, none⟩ = some (.bool (X.getD (127 - k) false)) := (blk_cell b7 _).trans (bcells_get _ _ (by have := LX.out; omega))
        have hz8 : wr.cell? ⟨w2.heap.size, 127 - k, none⟩ = some (.bool (Y.getD (127 - k) false)) := (blk_cell b8 _).trans (bcells_get _ _ (by have := LY.out; omega))
        have hz9 : wr.cell? ⟨w2.heap.size + 1, 127 - k, none⟩ = some (.bool ((smR X Y k).getD (127 - k) false)) := (blk_cell b9 _).trans (bcells_get _ _ (by rw [smR_length]; omega))
        have hf9 := blk_frozen b9 (127 - k)
        have b10 := fun b => blk_set b9 (127 - k) (.bool b)
        have B6 := Aside0.mk (fun b => blk_far b6 (p := ⟨w2.heap.size + 1, 127 - k, none⟩) (by have := hs7.out; have := hs8.out; simp only []; omega) (.bool b))
        have B7 := Aside0.mk (fun b => blk_far b7 (p := ⟨w2.heap.size + 1, 127 - k, none⟩) (by have := hs7.out; have := hs8.out; simp only []; omega) (.bool b))
        have B8 := Aside0.mk (fun b => blk_far b8 (p := ⟨w2.heap.size + 1, 127 - k, none⟩) (by have := hs7.out; have := hs8.out; simp only []; omega) (.bool b))
        have B9 := Aside0.mk b10
        have HB := Aside0.mk hb
        clear b6 b7 b8 b9 b10 hb
        cases h1 : X.getD (127 - k) false
        all_goals cases h2 : Y.getD (127 - k) false
        all_goals cases h3 : cyR X Y k
        all_goals
          rw [h1] at hz7
          rw [h2] at hz8
          have H1 := Aside0.mk h1
          have H2 := Aside0.mk h2
          have H3 := Aside0.mk h3
          clear h1 h2 h3
          go_wp2
          go_roundw
          case rel =>
            refine ⟨k + 1, by omega, ?_, ?_, B6.out _, B7.out _, B8.out _, ?_, below_set HB.out (by have := hs7.out; have := hs8.out; omega)⟩
            · congr 1; omega
            · simp only [cyR, H1.out, H2.out, H3.out]; rfl
            · have z := B9.out ((X.getD (127 - k) false != Y.getD (127 - k) false) != cyR X Y k)
              rw [bcells_set] at z
              simp only [H1.out, H2.out, H3.out] at z
              simp only [smR, H1.out, H2.out, H3.out]
              exact z
          case measure => simp [intOf]; omega
      · have hge : ¬ (0 : Int) ≤ 127 - (k : Int) := by omega
        obtain rfl : 128 = k := by omega
        have B6 := Aside0.mk b6
        have HB := Aside0.mk hb
        clear b6 b7 b8 hb
        have l9 := smR_length X Y 128
        have C9 := Aside0.mk (fun w => take_callsR (smR X Y 128) l9 _ _ ⟨rfl, rfl⟩ w)
        have S9 := Aside0.mk (size69 _ l9)
        obtain ⟨t1, ht1⟩ : ∃ t, takeHi (smR X Y 128) = t := ⟨_, rfl⟩
        obtain ⟨t2, ht2⟩ : ∃ t, takeLo (smR X Y 128) = t := ⟨_, rfl⟩
        rw [ht1, ht2] at C9 A
        clear ht1 ht2 l9
        go_wp2_with (first | refine wpList_load_row rfl 69 _ rfl _ rfl 69 _ _ _ b9 Tryd.underlying69 rfl S9.out ?_)
        refine (C9.out _).mono ?_
        rintro e w3 ⟨rfl, hb3⟩
        have B63 := Aside0.mk (blk_below B6.out hb3)
        have HB3 := Aside0.mk (below_step HB.out hb3)
        clear hb3 b9
        go_wp2_with fail
        refine (turnoutref01_Cut.calls t1 t2 a2 r1 r2 _ A.out).mono ?_
        rintro e w4 ⟨rfl, hb4⟩
        have b64 := blk_below B63.out hb4
        have hcz0 : w4.cell? ⟨w.heap.size + 1 + 1, 0, none⟩ = some (.int .u64 0) := (blk_cell b64 0).trans rfl
        have hcz1 : w4.cell? ⟨w.heap.size + 1 + 1, 1, none⟩ = some (.int .u64 0) := (blk_cell b64 1).trans rfl
        have hfz0 := blk_frozen b64 0
        have hfz1 := blk_frozen b64 1
        have B64 := Aside0.mk b64
        have HB4 := Aside0.mk (below_step HB3.out hb4)
        clear b64 hb4
        go_wp2
        refine bodyPost_ret (results_cell_row rfl _ _ (w.heap.size + 1 + 1) 24 #[.int .u64 r1, .int .u64 r2] (0, 0) _ rfl (blk_put (cs := #[_, _]) (blk_put (cs := #[_, _]) B64.out 0 _ rfl) 1 _ rfl) Tryd.underlying24 rfl (by kernel_rfl)) rfl ?_
        exact ⟨rfl, below_set (below_set HB4.out (by omega)) (by omega)⟩
end Go.Proofs.YtofnhgpiipmegaaDoor.PV
