/- The reference's functions over layouts of 128 bits, continued: Sub, Compare, divided. -/
import Derived.Test.YtofnhgpiipmegaaDoorHRefB
namespace Go.Proofs.YtofnhgpiipmegaaDoor.PV
open Go.RowKit Go.Proofs.YtofnhgpiipmegaaDoorW.PrintWords Go.Proofs.YtofnhgpiipmegaaDoorW.PrintLast Go.Proofs.YtofnhgpiipmegaaDoorW.PrintMore
set_option linter.unusedVariables false
set_option linter.unusedSimpArgs false
def notR (l : List Bool) (k : Nat) : List Bool := (l.take k).map (fun b => !b) ++ l.drop k
theorem notR_length (l : List Bool) (k : Nat) (h : k ≤ l.length) : (notR l k).length = l.length := by simp [notR]; omega
theorem notR_zero (l : List Bool) : notR l 0 = l := by simp [notR]
theorem notR_get (l : List Bool) (k : Nat) (h : k < l.length) : (notR l k).getD k false = l.getD k false := by
  have h2 : k < (notR l k).length := by rw [notR_length l k (by omega)]; exact h
  simp only [List.getD, List.getElem?_eq_getElem h2, List.getElem?_eq_getElem h, Option.getD_some]
  simp only [notR, List.getElem_append, List.length_map, List.length_take]
  rw [dif_neg (by omega), List.getElem_drop]; congr 1; omega
theorem notR_step (l : List Bool) (k : Nat) (h : k < l.length) : (notR l k).set k (!(l.getD k false)) = notR l (k + 1) := by
  apply List.ext_getElem
  · rw [List.length_set, notR_length l k (by omega), notR_length l (k + 1) (by omega)]
  intro j h1 h2
  have hj : j < l.length := by rw [notR_length l (k + 1) (by omega)] at h2; exact h2
  simp only [notR, List.getElem_set, List.getElem_append, List.length_map, List.length_take, List.getElem_map, List.getElem_take, List.getElem_drop]
  by_cases h3 : k = j
  · subst h3; simp [List.getD, h]; intro h9; exfalso; omega
  · rw [if_neg h3]
    by_cases h4 : j < k
    · rw [dif_pos (by omega), dif_pos (by omega)]
    · rw [dif_neg (by omega), dif_neg (by omega)]; congr 1; omega
def turnoutref01_Sub.f (a0_0 a0_1 a1_0 a1_1 a2 : Int) : Option (Int × Int) :=
  (turnoutref01_Add.f (takeHi (notR (layL a1_0 a1_1) 128)) (takeLo (notR (layL a1_0 a1_1) 128)) 0 1 128).bind fun n => turnoutref01_Add.f a0_0 a0_1 n.1 n.2 a2
def SubRel (w : World) (a0_0 a0_1 : Int) (y : List Bool) (k g7 : Nat) (wr : World) : Prop :=
  wr.heap[w.heap.size]? = some (.cells #[.int .u64 a0_0, .int .u64 a0_1] 24 (0, 0)) ∧ wr.heap[w.heap.size + 1 + 1]? = some (.cells #[.int .u64 0, .int .u64 0] 24 (0, 0)) ∧ wr.heap[g7]? = some (.cells (bcells (notR y k)) 69 (0, 0)) ∧ Below w.heap.size w wr
set_option maxHeartbeats 8000000 in
set_option maxRecDepth 100000 in
theorem turnoutref01_Sub.calls (a0_0 a0_1 a1_0 a1_1 a2 r1 r2 : Int) (w : World) (h : turnoutref01_Sub.f a0_0 a0_1 a1_0 a1_1 a2 = some (r1, r2)) :
    Calls Tryd.prog 36 #[.agg #[.int .u64 a0_0, .int .u64 a0_1], .agg #[.int .u64 a1_0, .int .u64 a1_1], .int .i64 a2] w fun e w' => e = .returned (.agg #[.int .u64 r1, .int .u64 r2]) ∧ Below w.heap.size w w' := by
  have hu24 := Tryd.underlying24
  unfold turnoutref01_Sub.f at h
  obtain ⟨Y, hY⟩ : ∃ Y, layL a1_0 a1_1 = Y := ⟨_, rfl⟩
  have ly : Y.length = 128 := by rw [← hY, layL_length]
  rw [hY] at h
  have C8 := Aside0.mk (fun w => lay_calls a1_0 a1_1 w)
  rw [hY] at C8
  have l9 : (notR Y 128).length = 128 := by rw [notR_length _ _ (by omega), ly]
  have C9 := Aside0.mk (fun w => take_callsR (notR Y 128) l9 _ _ ⟨rfl, rfl⟩ w)
  have S9 := Aside0.mk (size69 _ l9)
  obtain ⟨t1, ht1⟩ : ∃ t, takeHi (notR Y 128) = t := ⟨_, rfl⟩
  obtain ⟨t2, ht2⟩ : ∃ t, takeLo (notR Y 128) = t := ⟨_, rfl⟩
  rw [ht1, ht2] at C9 h
  obtain ⟨⟨n1, n2⟩, h1, h2⟩ := Option.bind_eq_some_iff.mp h
  have A1 := Aside0.mk h1
  have A2 := Aside0.mk h2
  have LY := Aside0.mk ly
  clear h hY ly l9 ht1 ht2 h1 h2
  go_enter Tryd.func36, Tryd.ntmps36
  go_wp2_with fail
  refine (C8.out _).mono ?_
  rintro e w1 ⟨rfl, hb⟩
  have HB1 := Aside0.mk (below_step (below_alloc (below_alloc (below_alloc (Below.refl w.heap.size w) _) _) _) hb)
  have B6 := Aside0.mk (blk_below (heap_alloc3_new w _ _ _) hb)
  have B3 := Aside0.mk (blk_below (blk_alloc (blk_alloc (blk_new w _) _) _) hb)
  have hs7 := Aside0.mk (blk_lt B6.out)
  clear hb
  go_wp2_with (first | refine wpList_store_fresh rfl 69 _ _ rfl rfl rfl _ rfl 69 _ (size69 _ LY.out) (same69 _ LY.out) (bcells_one _) ?_)
  go_loopw [8] (fun i wr => ∃ k : Nat, k ≤ 128 ∧ i = .int .i64 k ∧ SubRel w a0_0 a0_1 Y k w1.heap.size wr) (fun i _ => 128 - (intOf i).toNat)
  case atStart =>
    refine ⟨0, by omega, rfl, blk_alloc B3.out _, blk_alloc B6.out _, ?_, below_alloc HB1.out _⟩
    rw [notR_zero]; exact blk_new _ _
  case round =>
    obtain ⟨k, hk, rfl, b3, b6, b7, hb⟩ := hrel
    by_cases hlt : k < 128
    · have hz7 : wr.cell? ⟨w1.heap.size, k, none⟩ = some (.bool (Y.getD k false)) := by
        rw [blk_cell b7 k, bcells_get _ _ (by have := LY.out; rw [notR_length _ _ (by omega)]; omega), notR_get _ _ (by have := LY.out; omega)]
      have hf7 := blk_frozen b7 k
      have b10 := blk_set b7 k (.bool (!(Y.getD k false)))
      rw [bcells_set, notR_step _ _ (by have := LY.out; omega)] at b10
      have B3' := Aside0.mk (blk_far b3 (p := ⟨w1.heap.size, k, none⟩) (by have := hs7.out; simp only []; omega) (.bool (!(Y.getD k false))))
      have B6' := Aside0.mk (blk_far b6 (p := ⟨w1.heap.size, k, none⟩) (by have := hs7.out; simp only []; omega) (.bool (!(Y.getD k false))))
      have B10 := Aside0.mk b10
      have HB := Aside0.mk hb
      clear b3 b6 b7 b10 hb
      generalize Y.getD k false = yb at *
      go_wp2
      go_roundw
      case rel => exact ⟨k + 1, by omega, by go_num, B3'.out, B6'.out, B10.out, below_set HB.out (by have := hs7.out; omega)⟩
      case measure => simp [intOf]; omega
    · obtain rfl : 128 = k := by omega
      have B3' := Aside0.mk b3
      have B6' := Aside0.mk b6
      have HB := Aside0.mk hb
      clear b3 b6 hb
      go_wp2_with (first | refine wpList_load_row rfl 69 _ rfl _ rfl 69 _ _ _ b7 Tryd.underlying69 rfl S9.out ?_)
      refine (C9.out _).mono ?_
      rintro e w3 ⟨rfl, hb3⟩
      have B33 := Aside0.mk (blk_below B3'.out hb3)
      have B63 := Aside0.mk (blk_below B6'.out hb3)
      have HB3 := Aside0.mk (below_step HB.out hb3)
      clear hb3 b7
      go_wp2_with fail
      refine (turnoutref01_Add.calls t1 t2 0 1 128 n1 n2 _ A1.out).mono ?_
      rintro e w4 ⟨rfl, hb4⟩
      have b34 := blk_below B33.out hb4
      have hz0 : w4.cell? ⟨w.heap.size, 0, none⟩ = some (.int .u64 a0_0) := (blk_cell b34 0).trans rfl
      have hz1 : w4.cell? ⟨w.heap.size, 1, none⟩ = some (.int .u64 a0_1) := (blk_cell b34 1).trans rfl
      have hsz : w.heap.size < w4.heap.size := blk_lt b34
      have B64 := Aside0.mk (blk_below B63.out hb4)
      have HB4 := Aside0.mk (below_step HB3.out hb4)
      clear b34 hb4
      go_wp2_with fail
      refine (turnoutref01_Add.calls a0_0 a0_1 n1 n2 a2 r1 r2 _ A2.out).mono ?_
      rintro e w5 ⟨rfl, hb5⟩
      have b65 := blk_below (blk_alloc B64.out _) hb5
      have hcz0 : w5.cell? ⟨w.heap.size + 1 + 1, 0, none⟩ = some (.int .u64 0) := (blk_cell b65 0).trans rfl
      have hcz1 : w5.cell? ⟨w.heap.size + 1 + 1, 1, none⟩ = some (.int .u64 0) := (blk_cell b65 1).trans rfl
      have hfz0 := blk_frozen b65 0
      have hfz1 := blk_frozen b65 1
      have B65 := Aside0.mk b65
      have HB5 := Aside0.mk (below_step (below_alloc HB4.out _) hb5)
      clear b65 hb5
      go_wp2
      refine bodyPost_ret (results_cell_row rfl _ _ (w.heap.size + 1 + 1) 24 #[.int .u64 r1, .int .u64 r2] (0, 0) _ rfl (blk_put (cs := #[_, _]) (blk_put (cs := #[_, _]) B65.out 0 _ rfl) 1 _ rfl) Tryd.underlying24 rfl (by kernel_rfl)) rfl ?_
      exact ⟨rfl, below_set (below_set HB5.out (by omega)) (by omega)⟩
/-! Compare -/
def cmpL : List Bool → List Bool → Int
  | a :: x, b :: y => if a = b then cmpL x y else if b = true then -1 else 1
  | _, _ => 0
theorem drop_consB (l : List Bool) (k : Nat) (h : k < l.length) : l.drop k = l.getD k false :: l.drop (k + 1) := by
  rw [List.drop_eq_getElem_cons h]; simp [List.getD, h]
def turnoutref01_Compare.f (a0_0 a0_1 a1_0 a1_1 : Int) : Option Int := some (cmpL (layL a0_0 a0_1) (layL a1_0 a1_1))
def CmpRel (w : World) (x y : List Bool) (k : Nat) (r : Int) (g5 g6 : Nat) (wr : World) : Prop :=
  wr.heap[g5]? = some (.cells (bcells x) 69 (0, 0)) ∧ wr.heap[g6]? = some (.cells (bcells y) 69 (0, 0)) ∧ cmpL (x.drop k) (y.drop k) = r ∧ Below w.heap.size w wr
set_option maxHeartbeats 8000000 in
set_option maxRecDepth 100000 in
theorem turnoutref01_Compare.calls (a0_0 a0_1 a1_0 a1_1 r : Int) (w : World) (h : turnoutref01_Compare.f a0_0 a0_1 a1_0 a1_1 = some r) :
    Calls Tryd.prog 30 #[.agg #[.int .u64 a0_0, .int .u64 a0_1], .agg #[.int .u64 a1_0, .int .u64 a1_1]] w fun e w' => e = .returned (.int .i64 r) ∧ Below w.heap.size w w' := by
  have hu24 := Tryd.underlying24
  unfold turnoutref01_Compare.f at h
  obtain ⟨X, hX⟩ : ∃ X, layL a0_0 a0_1 = X := ⟨_, rfl⟩
  obtain ⟨Y, hY⟩ : ∃ Y, layL a1_0 a1_1 = Y := ⟨_, rfl⟩
  have lx : X.length = 128 := by rw [← hX, layL_length]
  have ly : Y.length = 128 := by rw [← hY, layL_length]
  rw [hX, hY] at h
  have R := Aside0.mk (Option.some.inj h)
  have C7 := Aside0.mk (fun w => lay_calls a0_0 a0_1 w)
  have C8 := Aside0.mk (fun w => lay_calls a1_0 a1_1 w)
  rw [hX] at C7
  rw [hY] at C8
  have LX := Aside0.mk lx
  have LY := Aside0.mk ly
  clear h hX hY lx ly
  go_enter Tryd.func30, Tryd.ntmps30
  go_wp2_with fail
  refine (C7.out _).mono ?_
  rintro e w1 ⟨rfl, hb⟩
  have HB1 := Aside0.mk (below_step (below_alloc (below_alloc (Below.refl w.heap.size w) _) _) hb)
  have hb4 : w1.cell? ⟨w.heap.size + 1, 0, none⟩ = some (.int .u64 a1_0) := by
    rw [hb.cell (p := ⟨w.heap.size + 1, 0, none⟩) (by simp only [World.size_alloc]; omega)]
    exact (blk_cell (heap_alloc2_new w _ _) 0).trans rfl
  have hb5 : w1.cell? ⟨w.heap.size + 1, 1, none⟩ = some (.int .u64 a1_1) := by
    rw [hb.cell (p := ⟨w.heap.size + 1, 1, none⟩) (by simp only [World.size_alloc]; omega)]
    exact (blk_cell (heap_alloc2_new w _ _) 1).trans rfl
  have hlt1 : w.heap.size + 1 < w1.heap.size := by have := hb.size; simp only [World.size_alloc] at this; omega
  clear hb
  go_wp2_with (first | refine wpList_store_fresh rfl 69 _ _ rfl rfl rfl _ rfl 69 _ (size69 _ LX.out) (same69 _ LX.out) (bcells_one _) ?_)
  refine (C8.out _).mono ?_
  rintro e w2 ⟨rfl, hb⟩
  have B7 := Aside0.mk (blk_below (blk_new w1 _) hb)
  have HB2 := Aside0.mk (below_step (below_alloc HB1.out _) hb)
  have hs8 := Aside0.mk (blk_lt B7.out)
  clear hb hb4 hb5 HB1
  go_wp2_with (first | refine wpList_store_fresh rfl 69 _ _ rfl rfl rfl _ rfl 69 _ (size69 _ LY.out) (same69 _ LY.out) (bcells_one _) ?_)
  go_loopw [7] (fun i wr => ∃ k : Nat, k ≤ 128 ∧ i = .int .i64 k ∧ CmpRel w X Y k r w1.heap.size w2.heap.size wr) (fun i _ => 128 - (intOf i).toNat)
  case atStart => exact ⟨0, by omega, rfl, blk_alloc B7.out _, blk_new _ _, R.out, below_alloc HB2.out _⟩
  case round =>
    obtain ⟨k, hk, rfl, b5, b6, hr, hb⟩ := hrel
    by_cases hlt : k < 128
    · have hz5 : wr.cell? ⟨w1.heap.size, k, none⟩ = some (.bool (X.getD k false)) := (blk_cell b5 _).trans (bcells_get _ _ (by have := LX.out; omega))
      have hz6 : wr.cell? ⟨w2.heap.size, k, none⟩ = some (.bool (Y.getD k false)) := (blk_cell b6 _).trans (bcells_get _ _ (by have := LY.out; omega))
      rw [drop_consB X k (by have := LX.out; omega), drop_consB Y k (by have := LY.out; omega), cmpL] at hr
      have B5 := Aside0.mk b5
      have B6 := Aside0.mk b6
      have HB := Aside0.mk hb
      have hlt1' : (k : Int) < 128 := by omega
      clear b5 b6 hb
      cases h1 : X.getD k false
      all_goals cases h2 : Y.getD k false
      all_goals
        rw [h1] at hz5 hr
        rw [h2] at hz6 hr
        clear h1 h2
        first
        | (rw [if_neg (by decide), if_pos rfl] at hr; obtain rfl := hr)
        | (rw [if_neg (by decide), if_neg (by decide)] at hr; obtain rfl := hr)
        | (rw [if_pos rfl] at hr; have HR := Aside0.mk hr; clear hr)
      all_goals
        go_wp2_with fail
        go_quiet (fail)
        go_wp2
        first
        | (go_ret; exact ⟨rfl, pw_below_drewN HB.out _⟩)
        | (go_roundw
           case rel => exact ⟨k + 1, by omega, by go_num, B5.out, B6.out, HR.out, pw_below_drewN HB.out _⟩
           case measure => simp [intOf]; omega)
    · obtain rfl : 128 = k := by omega
      rw [List.drop_eq_nil_of_le (by have := LX.out; omega), List.drop_eq_nil_of_le (by have := LY.out; omega)] at hr
      obtain rfl : 0 = r := hr
      have HB := Aside0.mk hb
      clear b5 b6 hb
      go_wp2
      go_ret
      exact ⟨rfl, HB.out⟩
end Go.Proofs.YtofnhgpiipmegaaDoor.PV
