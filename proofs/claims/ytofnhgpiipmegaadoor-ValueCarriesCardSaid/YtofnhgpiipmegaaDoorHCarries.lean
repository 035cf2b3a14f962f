-- Printed by this session's gprint.py (the kit's printer, with functions given by hand). Not trusted: Lean checks it.
import Derived.Test.YtofnhgpiipmegaaDoorPVx0
import Derived.Test.YtofnhgpiipmegaaDoorPVx1
import Derived.Test.YtofnhgpiipmegaaDoorPVx2
import Derived.Test.YtofnhgpiipmegaaDoorPVx4
import Derived.Test.YtofnhgpiipmegaaDoorPVx5
import Derived.Test.YtofnhgpiipmegaaDoorPVx16
import Derived.Test.YtofnhgpiipmegaaDoorHAdd
namespace Go.Proofs.YtofnhgpiipmegaaDoor.PV
open Go.RowKit Go.Proofs.YtofnhgpiipmegaaDoorW.PrintWords Go.Proofs.YtofnhgpiipmegaaDoorW.PrintLast Go.Proofs.YtofnhgpiipmegaaDoorW.PrintMore
attribute [local go_sem] max2_int min2_int max_two min_two max_three min_three max_four min_four   -- for this text's walks alone
set_option linter.unusedVariables false
set_option linter.unusedSimpArgs false

attribute [local go_sem high] eqA24
/-! ### turnoutlaw01_ValueCarries: function 5 -/
mutual
def turnoutlaw01_ValueCarries.j0 : Nat → Int → Bool → Bool → Int → Int → Int → Int → Option (Bool)
  | 0, _, _, _, _, _, _, _ => none
  | k + 1, x2, x7, x23, x369000, x369001, x370000, x370001 => if x23 = true then (some x7) else ((value_Add.f x369000 x369001 x370000 x370001 x2).bind fun bt371 => (turnoutlaw01_ValueCarries.l0 k x2 x7 false (wrap64 (x2 - 1)) x369000 x369001 x370000 x370001 bt371.1 bt371.2))
def turnoutlaw01_ValueCarries.l0 : Nat → Int → Bool → Bool → Int → Int → Int → Int → Int → Int → Int → Option (Bool)
  | 0, _, _, _, _, _, _, _, _, _, _ => none
  | k + 1, x2, x7, x9, x10, x369000, x369001, x370000, x370001, x374000, x374001 => if x10 ≥ 0 then ((value_Bit.f x369000 x369001 x2 x10).bind fun t374 => ((value_Bit.f x370000 x370001 x2 x10).bind fun t375 => ((value_Bit.f x374000 x374001 x2 x10).bind fun t376 => (if (t376 != ((t374 != t375) != x9)) = true then (some false) else (if t374 = true then (if t375 = true then (turnoutlaw01_ValueCarries.l0 k x2 x7 true (wrap64 (x10 - 1)) x369000 x369001 x370000 x370001 x374000 x374001) else (if x9 = true then (turnoutlaw01_ValueCarries.l0 k x2 x7 true (wrap64 (x10 - 1)) x369000 x369001 x370000 x370001 x374000 x374001) else (turnoutlaw01_ValueCarries.l0 k x2 x7 false (wrap64 (x10 - 1)) x369000 x369001 x370000 x370001 x374000 x374001))) else (if t375 = true then (turnoutlaw01_ValueCarries.l0 k x2 x7 x9 (wrap64 (x10 - 1)) x369000 x369001 x370000 x370001 x374000 x374001) else (turnoutlaw01_ValueCarries.l0 k x2 x7 false (wrap64 (x10 - 1)) x369000 x369001 x370000 x370001 x374000 x374001))))))) else ((value_Sub.f x369000 x369001 x370000 x370001 x2).bind fun bt377 => ((value_Add.f bt377.1 bt377.2 x370000 x370001 x2).bind fun bt380 => ((value_Sub.f x369000 x369001 x369000 x369001 x2).bind fun bt383 => (if x7 = true then ((value_Fits.f x374000 x374001 x2).bind fun t386 => (if t386 = true then ((value_Fits.f bt377.1 bt377.2 x2).bind fun t387 => (if t387 = true then ((value_Cut.f x369000 x369001 x2).bind fun bt388 => (if (bt380.1 == bt388.1 && (bt380.2 == bt388.2)) = true then (some (bt383.1 == 0 && (bt383.2 == 0))) else (some false))) else (some false))) else (some false))) else (some false)))))
end
def turnoutlaw01_ValueCarries.f (k : Nat) (a0_0 : Int) (a0_1 : Int) (a1_0 : Int) (a1_1 : Int) (a2 : Int) : Option (Bool) := (turnoutlaw01_awake.f k).bind fun t370 => (if a2 < 1 then (turnoutlaw01_ValueCarries.j0 k a2 t370 true a0_0 a0_1 a1_0 a1_1) else (turnoutlaw01_ValueCarries.j0 k a2 t370 (decide (a2 > 128)) a0_0 a0_1 a1_0 a1_1))
theorem turnoutlaw01_ValueCarries.mono_l : ∀ k, (∀ y0 y1 y2 y3 y4 y5 y6, LeO (turnoutlaw01_ValueCarries.j0 k y0 y1 y2 y3 y4 y5 y6) (turnoutlaw01_ValueCarries.j0 (k + 1) y0 y1 y2 y3 y4 y5 y6)) ∧ (∀ y0 y1 y2 y3 y4 y5 y6 y7 y8 y9, LeO (turnoutlaw01_ValueCarries.l0 k y0 y1 y2 y3 y4 y5 y6 y7 y8 y9) (turnoutlaw01_ValueCarries.l0 (k + 1) y0 y1 y2 y3 y4 y5 y6 y7 y8 y9))
  | 0 => ⟨fun _ _ _ _ _ _ _ r h => by simp [turnoutlaw01_ValueCarries.j0] at h, fun _ _ _ _ _ _ _ _ _ _ r h => by simp [turnoutlaw01_ValueCarries.l0] at h⟩
  | k + 1 => by
    obtain ⟨ih0, ih1⟩ := turnoutlaw01_ValueCarries.mono_l k
    refine ⟨?_, ?_⟩
    · intro y0 y1 y2 y3 y4 y5 y6
      unfold turnoutlaw01_ValueCarries.j0
      repeat' first
      | (with_reducible exact ih0 _ _ _ _ _ _ _)
      | (with_reducible exact ih1 _ _ _ _ _ _ _ _ _ _)
      | (with_reducible exact turnoutlaw01_awake.mono _)
      | (with_reducible exact LeO.refl _)
      | (with_reducible exact LeO.none _)
      | (with_reducible refine LeO.ite ?_ ?_)
      | (with_reducible refine LeO.bind ?_ (fun _ => ?_))
      | exact ih0 _ _ _ _ _ _ _
      | exact ih1 _ _ _ _ _ _ _ _ _ _
      | exact turnoutlaw01_awake.mono _
      | exact LeO.none _
      | refine LeO.ite ?_ ?_
      | refine LeO.bind ?_ (fun _ => ?_)
    · intro y0 y1 y2 y3 y4 y5 y6 y7 y8 y9
      unfold turnoutlaw01_ValueCarries.l0
      repeat' first
      | (with_reducible exact ih0 _ _ _ _ _ _ _)
      | (with_reducible exact ih1 _ _ _ _ _ _ _ _ _ _)
      | (with_reducible exact turnoutlaw01_awake.mono _)
      | (with_reducible exact LeO.refl _)
      | (with_reducible exact LeO.none _)
      | (with_reducible refine LeO.ite ?_ ?_)
      | (with_reducible refine LeO.bind ?_ (fun _ => ?_))
      | exact ih0 _ _ _ _ _ _ _
      | exact ih1 _ _ _ _ _ _ _ _ _ _
      | exact turnoutlaw01_awake.mono _
      | exact LeO.none _
      | refine LeO.ite ?_ ?_
      | refine LeO.bind ?_ (fun _ => ?_)
theorem turnoutlaw01_ValueCarries.mono : ∀ a0 a1 a2 a3 a4 k, LeO (turnoutlaw01_ValueCarries.f k a0 a1 a2 a3 a4) (turnoutlaw01_ValueCarries.f (k + 1) a0 a1 a2 a3 a4) := by
  intro a0 a1 a2 a3 a4 k
  obtain ⟨ih0, ih1⟩ := turnoutlaw01_ValueCarries.mono_l k
  unfold turnoutlaw01_ValueCarries.f
  repeat' first
      | (with_reducible exact ih0 _ _ _ _ _ _ _)
      | (with_reducible exact ih1 _ _ _ _ _ _ _ _ _ _)
      | (with_reducible exact turnoutlaw01_awake.mono _)
      | (with_reducible exact LeO.refl _)
      | (with_reducible exact LeO.none _)
      | (with_reducible refine LeO.ite ?_ ?_)
      | (with_reducible refine LeO.bind ?_ (fun _ => ?_))
      | exact ih0 _ _ _ _ _ _ _
      | exact ih1 _ _ _ _ _ _ _ _ _ _
      | exact turnoutlaw01_awake.mono _
      | exact LeO.none _
      | refine LeO.ite ?_ ?_
      | refine LeO.bind ?_ (fun _ => ?_)
def turnoutlaw01_ValueCarries.T18 : Bool × List (List Nat × List Nat) := (true, [([], []), ([0], [0]), ([1], [1]), ([1], [1]), ([2, 3, 1, 1], [1, 2, 3]), ([1, 4], [1, 4]), ([5, 4], [5]), ([6], [6]), ([6], [6]), ([7, 8, 6, 6], [6, 7, 8]), ([6, 9], [6, 9]), ([10, 9], [10]), ([11], [11]), ([11], [11]), ([11], [11]), ([13, 14, 11, 11], [11, 13, 14]), ([12, 15, 11], [11, 12, 15]), ([11, 16], [11, 16]), ([17, 15], [17]), ([18], [18]), ([18], [18]), ([19, 20, 18], [18, 19, 20]), ([18, 21], [18, 21]), ([22, 18, 0, 1, 2, 3, 4, 5, 6, 7, 8, 9, 10, 11, 12, 13, 14, 15, 16, 17, 18, 19, 20, 21, 22], [22])])
def turnoutlaw01_ValueCarries.B18 : List Nat := [0, 1, 3, 3, 15, 31, 63, 127, 127, 511, 1023, 2047, 4095, 4095, 4095, 28671, 65535, 131071, 262143, 524287, 524287, 2097151, 4194303, 8388607]
theorem turnoutlaw01_ValueCarries.tab18 : rtab .any (opsOf Tryd.f5 18) = turnoutlaw01_ValueCarries.T18 := by kernel_rfl
theorem turnoutlaw01_ValueCarries.bits18 : waitsOk turnoutlaw01_ValueCarries.T18.2 turnoutlaw01_ValueCarries.B18 = true := by kernel_rfl
set_option maxHeartbeats 8000000 in
set_option maxRecDepth 100000 in
theorem turnoutlaw01_ValueCarries.calls (k : Nat) (a0_0 : Int) (a0_1 : Int) (a1_0 : Int) (a1_1 : Int) (a2 : Int) (r : Bool) (w : World) (hG : GlobalsAt w) (h : turnoutlaw01_ValueCarries.f k a0_0 a0_1 a1_0 a1_1 a2 = some r) (hrt : Aside0 (r = true)) :
    Calls Tryd.prog 5 #[.agg #[.int .u64 a0_0, .int .u64 a0_1], .agg #[.int .u64 a1_0, .int .u64 a1_1], .int .i64 a2] w fun e w' => e = .returned (.bool r) ∧ Below w.heap.size w w' := by
  have HG := Aside0.mk hG
  clear hG
  have hu24 := Tryd.underlying24
  have HB := Aside0.mk (Below.refl w.heap.size w)
  have H : ((turnoutlaw01_awake.f k).bind fun t370 => (if a2 < 1 then (turnoutlaw01_ValueCarries.j0 k a2 t370 true a0_0 a0_1 a1_0 a1_1) else (turnoutlaw01_ValueCarries.j0 k a2 t370 (decide (a2 > 128)) a0_0 a0_1 a1_0 a1_1))) = some r := h
  clear h
  replace H := Option.bind_eq_some_iff.mp H
  obtain ⟨t370, A40, H⟩ := H
  replace H : (if a2 < 1 then (turnoutlaw01_ValueCarries.j0 k a2 t370 true a0_0 a0_1 a1_0 a1_1) else (turnoutlaw01_ValueCarries.j0 k a2 t370 (decide (a2 > 128)) a0_0 a0_1 a1_0 a1_1)) = some r := H
  have A4 := Aside0.mk A40
  clear A40
  have HC5 := Aside0.mk H
  clear H
  go_enter Tryd.func5, Tryd.ntmps5
  go_upto_region 2 with (first | ((with_reducible refine gate_dst (N := 3) rfl ?_); refine box_event ?hg (N := 3) ?hd (cs := #[.int .u64 a0_0, .int .u64 a0_1]) (t := 24) ?hr ?_; (case hd => rfl); (case hg => rfl); (case hr => first | (go_simp; done) | (go_simp; rfl)); intro gb368 hg w6 hbox hb; have n0_ := Aside0.mk (below_step (by repeat (first | (with_reducible first | exact HB.out | apply below_alloc | apply pw_below_drewN | apply below_drew1) | exact HB.out)) hb); have n1_ := Aside0.mk (hbox); have n2_ := Aside0.mk ((by rw [hg]; exact (below_size (by repeat (first | (with_reducible first | exact HB.out | apply below_alloc | apply pw_below_drewN | apply below_drew1) | exact HB.out))) : w.heap.size ≤ gb368)); have n3_ := Aside0.mk ((by rw [hg]; exact (below_size (by repeat (first | (with_reducible first | exact HB.out | apply below_alloc | apply pw_below_drewN | apply below_drew1) | exact HB.out))) : w.heap.size ≤ gb368)); clear HB; have HB := n0_; have BK368 := n1_; have GW368 := n2_; have GE368 := n3_; clear n0_ n1_ n2_ n3_; clear hb hbox hg) | ((with_reducible refine gate_dst (N := 4) rfl ?_); refine box_event ?hg (N := 4) ?hd (cs := #[.int .u64 a1_0, .int .u64 a1_1]) (t := 24) ?hr ?_; (case hd => rfl); (case hg => rfl); (case hr => first | (go_simp; done) | (go_simp; rfl)); intro gb369 hg w7 hbox hb; have n0_ := Aside0.mk (blk_below (g := gb368) (o := .cells #[.int .u64 a0_0, .int .u64 a0_1] 24 (0, 0)) (by (with_reducible repeat (first | refine blk_drewN ?_ _ | refine blk_drew ?_ | refine blk_alloc ?_ _)); exact BK368.out) hb); have n1_ := Aside0.mk (below_step (by repeat (first | (with_reducible first | exact HB.out | apply below_alloc | apply pw_below_drewN | apply below_drew1 | refine below_set ?_ GE368.out) | exact HB.out)) hb); have n2_ := Aside0.mk (hbox); have n3_ := Aside0.mk ((by rw [hg]; exact (below_size (by repeat (first | (with_reducible first | exact HB.out | apply below_alloc | apply pw_below_drewN | apply below_drew1 | refine below_set ?_ GE368.out) | exact HB.out))) : w.heap.size ≤ gb369)); have n4_ := Aside0.mk ((by rw [hg]; exact (below_size (by repeat (first | (with_reducible first | exact HB.out | apply below_alloc | apply pw_below_drewN | apply below_drew1 | refine below_set ?_ GE368.out) | exact HB.out))) : w.heap.size ≤ gb369)); have n5_ := Aside0.mk ((by rw [hg]; exact Nat.ne_of_lt (blk_lt (g := gb368) (o := .cells #[.int .u64 a0_0, .int .u64 a0_1] 24 (0, 0)) (by (with_reducible repeat (first | refine blk_drewN ?_ _ | refine blk_drew ?_ | refine blk_alloc ?_ _)); exact BK368.out)) : gb368 ≠ gb369)); have n6_ := Aside0.mk ((by rw [hg]; exact Nat.ne_of_gt (blk_lt (g := gb368) (o := .cells #[.int .u64 a0_0, .int .u64 a0_1] 24 (0, 0)) (by (with_reducible repeat (first | refine blk_drewN ?_ _ | refine blk_drew ?_ | refine blk_alloc ?_ _)); exact BK368.out)) : gb369 ≠ gb368)); clear BK368; clear HB; have BK368 := n0_; have HB := n1_; have BK369 := n2_; have GW369 := n3_; have GE369 := n4_; have NB368_369 := n5_; have NB369_368 := n6_; clear n0_ n1_ n2_ n3_ n4_ n5_ n6_; clear hb hbox hg) | ((with_reducible refine gate_callee (f := 8) rfl ?_); refine goesL_ (some 17) rfl rfl Tryd.func8 (by kernel_rfl) rfl #[] rfl (by (try simp only [List.map_toArray, List.map_cons, List.map_nil]); first | done | rfl | (simp only [List.length_drop, List.length_take]; rfl)) ?_; (with_reducible refine (turnoutlaw01_awake.calls k  t370 _ ?side1 A4.out).mono ?_); (case side1 => exact GlobalsAt.below HG.out (by repeat (first | (with_reducible first | exact HB.out | apply below_alloc | apply pw_below_drewN | apply below_drew1 | refine below_set ?_ GE368.out | refine below_set ?_ GE369.out) | exact HB.out))); rintro e w8 ⟨rfl, hb⟩; refine ⟨_, rfl, ?_⟩; have n0_ := Aside0.mk (blk_below (g := gb368) (o := .cells #[.int .u64 a0_0, .int .u64 a0_1] 24 (0, 0)) (by (with_reducible repeat (first | refine blk_drewN ?_ _ | refine blk_drew ?_ | refine blk_alloc ?_ _)); exact BK368.out) hb); have n1_ := Aside0.mk (blk_below (g := gb369) (o := .cells #[.int .u64 a1_0, .int .u64 a1_1] 24 (0, 0)) (by (with_reducible repeat (first | refine blk_drewN ?_ _ | refine blk_drew ?_ | refine blk_alloc ?_ _)); exact BK369.out) hb); have n2_ := Aside0.mk (below_step (by repeat (first | (with_reducible first | exact HB.out | apply below_alloc | apply pw_below_drewN | apply below_drew1 | refine below_set ?_ GE368.out | refine below_set ?_ GE369.out) | exact HB.out)) hb); clear BK368; clear BK369; clear HB; have BK368 := n0_; have BK369 := n1_; have HB := n2_; clear n0_ n1_ n2_; (try clear hb); (try clear hb2); (try clear hk); (try clear hi)))
  (try simp only [Act.put, List.setIfInBounds_toArray, List.set_cons_zero, List.set_cons_succ])
  go_cut [23] (fun v23 wc => ∃ (kq : Nat) (x23_4 : Bool), v23 = .bool x23_4 ∧ Aside0 (turnoutlaw01_ValueCarries.j0 kq a2 t370 x23_4 a0_0 a0_1 a1_0 a1_1 = some r) ∧ Aside0 (kq ≤ k) ∧ Aside0 (wc.heap[gb368]? = some (.cells #[.int .u64 a0_0, .int .u64 a0_1] 24 (0, 0))) ∧ Aside0 (wc.heap[gb369]? = some (.cells #[.int .u64 a1_0, .int .u64 a1_1] 24 (0, 0))) ∧ Aside0 (Below w.heap.size w wc))
  case first =>
    have H := HC5.out
    clear HC5
    by_cases c9 : a2 < 1
    · rw [if_pos c9] at H
      have c9b0 : decide (a2 < 1) = true := decide_eq_true c9
      clear c9
      (first | rw [c9b0] | (simp only [i64_w, i32_w]; rw [c9b0]) | skip)
      have H' := Aside0.mk H
      clear H
      go_wp2
      go_meet
      case rel => exact ⟨_, (true), (by first | rfl | (simp; done) | (simp [*]; done)), H', ⟨by first | omega | exact Nat.le_refl _⟩, ⟨by (with_reducible repeat (first | refine blk_drewN ?_ _ | refine blk_drew ?_ | refine blk_alloc ?_ _)); exact BK368.out⟩, ⟨by (with_reducible repeat (first | refine blk_drewN ?_ _ | refine blk_drew ?_ | refine blk_alloc ?_ _)); exact BK369.out⟩, ⟨by repeat (first | (with_reducible first | exact HB.out | apply below_alloc | apply pw_below_drewN | apply below_drew1 | refine below_set ?_ GE368.out | refine below_set ?_ GE369.out) | exact HB.out)⟩⟩
    · rw [if_neg c9] at H
      have c9b0 : decide (a2 < 1) = false := decide_eq_false c9
      clear c9
      (first | rw [c9b0] | (simp only [i64_w, i32_w]; rw [c9b0]) | skip)
      have H' := Aside0.mk H
      clear H
      go_wp2
      go_meet
      case rel => exact ⟨_, (decide (a2 > 128)), (by first | rfl | (simp; done) | (simp [*]; done)), H', ⟨by first | omega | exact Nat.le_refl _⟩, ⟨by (with_reducible repeat (first | refine blk_drewN ?_ _ | refine blk_drew ?_ | refine blk_alloc ?_ _)); exact BK368.out⟩, ⟨by (with_reducible repeat (first | refine blk_drewN ?_ _ | refine blk_drew ?_ | refine blk_alloc ?_ _)); exact BK369.out⟩, ⟨by repeat (first | (with_reducible first | exact HB.out | apply below_alloc | apply pw_below_drewN | apply below_drew1 | refine below_set ?_ GE368.out | refine below_set ?_ GE369.out) | exact HB.out)⟩⟩
  case rest =>
    clear HC5
    try clear p2
    try clear c5
    try clear c8
    try clear c9
    try clear c9b0
    obtain ⟨kq, x23_4, rfl, HA, HJ4, BK368, BK369, HB⟩ := hcut
    cases kq with
    | zero => exact absurd HA.out (by simp [turnoutlaw01_ValueCarries.j0])
    | succ kj4 =>
      have H := HA.out
      clear HA
      simp only [turnoutlaw01_ValueCarries.j0] at H
      by_cases c10 : x23_4 = true
      · subst c10
        have H1 : (some t370) = some r := by rw [if_pos rfl] at H; exact H
        clear H
        have H := H1
        clear H1
        obtain rfl := Option.some.inj H
        go_wp2
        go_ret
        exact ⟨by first | rfl | (simp [errW_none, errW_some] <;> rfl) | (simp [*, errW_none, errW_some] <;> rfl), by repeat (first | (with_reducible first | exact HB.out | apply below_alloc | apply pw_below_drewN | apply below_drew1 | refine below_set ?_ GE368.out | refine below_set ?_ GE369.out) | exact HB.out)⟩
      · replace c10 := Bool.eq_false_iff.mpr c10
        subst c10
        have H1 : ((value_Add.f a0_0 a0_1 a1_0 a1_1 a2).bind fun bt371 => (turnoutlaw01_ValueCarries.l0 kj4 a2 t370 false (wrap64 (a2 - 1)) a0_0 a0_1 a1_0 a1_1 bt371.1 bt371.2)) = some r := by rw [if_neg (show ¬ (false = true) by decide)] at H; exact H
        clear H
        have H := H1
        clear H1
        replace H := Option.bind_eq_some_iff.mp H
        obtain ⟨⟨t371, t372⟩, A110, H⟩ := H
        replace H : (turnoutlaw01_ValueCarries.l0 kj4 a2 t370 false (wrap64 (a2 - 1)) a0_0 a0_1 a1_0 a1_1 t371 t372) = some r := H
        have A11 := Aside0.mk A110
        clear A110
        have H' := Aside0.mk H
        clear H
        have hnb12 := NB368_369.out
        have hnc12 := NB369_368.out
        have hcz13_0 : wc.cell? ⟨gb368, 0, none⟩ = some (.int .u64 a0_0) := (blk_cell BK368.out 0).trans rfl
        have hcz13_1 : wc.cell? ⟨gb368, 1, none⟩ = some (.int .u64 a0_1) := (blk_cell BK368.out 1).trans rfl
        have hfz13_0 := blk_frozen BK368.out 0
        have hfz13_1 := blk_frozen BK368.out 1
        have hcz14_0 : wc.cell? ⟨gb369, 0, none⟩ = some (.int .u64 a1_0) := (blk_cell BK369.out 0).trans rfl
        have hcz14_1 : wc.cell? ⟨gb369, 1, none⟩ = some (.int .u64 a1_1) := (blk_cell BK369.out 1).trans rfl
        have hfz14_0 := blk_frozen BK369.out 0
        have hfz14_1 := blk_frozen BK369.out 1
        go_wp2_with (first | ((with_reducible refine gate_callee (f := 16) rfl ?_); refine goesL_ (some 28) rfl rfl Tryd.func16 (by kernel_rfl) rfl #[.agg #[.int .u64 a0_0, .int .u64 a0_1], .agg #[.int .u64 a1_0, .int .u64 a1_1], .int .i64 a2] rfl (by (try simp only [List.map_toArray, List.map_cons, List.map_nil]); first | done | rfl | (simp only [List.length_drop, List.length_take]; rfl)) ?_; (with_reducible refine (value_Add.calls a0_0 a0_1 a1_0 a1_1 a2 t371 t372 _ A11.out).mono ?_); rintro e w15 ⟨rfl, hb⟩; refine ⟨_, rfl, ?_⟩; have n0_ := Aside0.mk (blk_below (g := gb368) (o := .cells #[.int .u64 a0_0, .int .u64 a0_1] 24 (0, 0)) (by (with_reducible repeat (first | refine blk_drewN ?_ _ | refine blk_drew ?_ | refine blk_alloc ?_ _)); exact BK368.out) hb); have n1_ := Aside0.mk (blk_below (g := gb369) (o := .cells #[.int .u64 a1_0, .int .u64 a1_1] 24 (0, 0)) (by (with_reducible repeat (first | refine blk_drewN ?_ _ | refine blk_drew ?_ | refine blk_alloc ?_ _)); exact BK369.out) hb); have n2_ := Aside0.mk (below_step (by repeat (first | (with_reducible first | exact HB.out | apply below_alloc | apply pw_below_drewN | apply below_drew1 | refine below_set ?_ GE368.out | refine below_set ?_ GE369.out) | exact HB.out)) hb); clear BK368; clear BK369; clear HB; have BK368 := n0_; have BK369 := n1_; have HB := n2_; clear n0_ n1_ n2_; (try clear hb); (try clear hb2); (try clear hk); (try clear hi)) | ((with_reducible refine gate_dst (N := 8) rfl ?_); refine box_event ?hg (N := 8) ?hd (cs := #[.int .u64 0, .int .u64 0]) (t := 24) ?hr ?_; (case hd => rfl); (case hg => rfl); (case hr => first | (go_simp; done) | (go_simp; rfl)); intro gb373 hg w16 hbox hb; have n0_ := Aside0.mk (blk_below (g := gb368) (o := .cells #[.int .u64 a0_0, .int .u64 a0_1] 24 (0, 0)) (by (with_reducible repeat (first | refine blk_drewN ?_ _ | refine blk_drew ?_ | refine blk_alloc ?_ _)); exact BK368.out) hb); have n1_ := Aside0.mk (blk_below (g := gb369) (o := .cells #[.int .u64 a1_0, .int .u64 a1_1] 24 (0, 0)) (by (with_reducible repeat (first | refine blk_drewN ?_ _ | refine blk_drew ?_ | refine blk_alloc ?_ _)); exact BK369.out) hb); have n2_ := Aside0.mk (below_step (by repeat (first | (with_reducible first | exact HB.out | apply below_alloc | apply pw_below_drewN | apply below_drew1 | refine below_set ?_ GE368.out | refine below_set ?_ GE369.out) | exact HB.out)) hb); have n3_ := Aside0.mk (hbox); have n4_ := Aside0.mk ((by rw [hg]; exact (below_size (by repeat (first | (with_reducible first | exact HB.out | apply below_alloc | apply pw_below_drewN | apply below_drew1 | refine below_set ?_ GE368.out | refine below_set ?_ GE369.out) | exact HB.out))) : w.heap.size ≤ gb373)); have n5_ := Aside0.mk ((by rw [hg]; exact (below_size (by repeat (first | (with_reducible first | exact HB.out | apply below_alloc | apply pw_below_drewN | apply below_drew1 | refine below_set ?_ GE368.out | refine below_set ?_ GE369.out) | exact HB.out))) : w.heap.size ≤ gb373)); have n6_ := Aside0.mk ((by rw [hg]; exact Nat.ne_of_lt (blk_lt (g := gb368) (o := .cells #[.int .u64 a0_0, .int .u64 a0_1] 24 (0, 0)) (by (with_reducible repeat (first | refine blk_drewN ?_ _ | refine blk_drew ?_ | refine blk_alloc ?_ _)); exact BK368.out)) : gb368 ≠ gb373)); have n7_ := Aside0.mk ((by rw [hg]; exact Nat.ne_of_gt (blk_lt (g := gb368) (o := .cells #[.int .u64 a0_0, .int .u64 a0_1] 24 (0, 0)) (by (with_reducible repeat (first | refine blk_drewN ?_ _ | refine blk_drew ?_ | refine blk_alloc ?_ _)); exact BK368.out)) : gb373 ≠ gb368)); have n8_ := Aside0.mk ((by rw [hg]; exact Nat.ne_of_lt (blk_lt (g := gb369) (o := .cells #[.int .u64 a1_0, .int .u64 a1_1] 24 (0, 0)) (by (with_reducible repeat (first | refine blk_drewN ?_ _ | refine blk_drew ?_ | refine blk_alloc ?_ _)); exact BK369.out)) : gb369 ≠ gb373)); have n9_ := Aside0.mk ((by rw [hg]; exact Nat.ne_of_gt (blk_lt (g := gb369) (o := .cells #[.int .u64 a1_0, .int .u64 a1_1] 24 (0, 0)) (by (with_reducible repeat (first | refine blk_drewN ?_ _ | refine blk_drew ?_ | refine blk_alloc ?_ _)); exact BK369.out)) : gb373 ≠ gb369)); clear BK368; clear BK369; clear HB; have BK368 := n0_; have BK369 := n1_; have HB := n2_; have BK373 := n3_; have GW373 := n4_; have GE373 := n5_; have NB368_373 := n6_; have NB373_368 := n7_; have NB369_373 := n8_; have NB373_369 := n9_; clear n0_ n1_ n2_ n3_ n4_ n5_ n6_ n7_ n8_ n9_; clear hb hbox hg; have hnb17 := NB373_368.out; have hnc17 := NB368_373.out; have hnb18 := NB373_369.out; have hnc18 := NB369_373.out; have hcz19_0 : w16.cell? ⟨gb373, 0, none⟩ = some (.int .u64 0) := (blk_cell BK373.out 0).trans rfl; have hcz19_1 : w16.cell? ⟨gb373, 1, none⟩ = some (.int .u64 0) := (blk_cell BK373.out 1).trans rfl; have hfz19_0 := blk_frozen BK373.out 0; have hfz19_1 := blk_frozen BK373.out 1))
        go_loopg [9, 10] kj4 (fun kq v9 v10 w' => ∃ (x9_2 : Bool) (x10_2 : Int), v9 = .bool x9_2 ∧ v10 = .int .i64 x10_2 ∧ Aside0 (turnoutlaw01_ValueCarries.l0 kq a2 t370 x9_2 x10_2 a0_0 a0_1 a1_0 a1_1 t371 t372 = some r) ∧ Aside0 (kq ≤ kj4) ∧ Aside0 (w'.heap[gb368]? = some (.cells #[.int .u64 a0_0, .int .u64 a0_1] 24 (0, 0))) ∧ Aside0 (w'.heap[gb369]? = some (.cells #[.int .u64 a1_0, .int .u64 a1_1] 24 (0, 0))) ∧ Aside0 (w'.heap[gb373]? = some (.cells #[.int .u64 t371, .int .u64 t372] 24 (0, 0))) ∧ Aside0 (Below w.heap.size w w'))
        case atStart => exact ⟨(false), (wrap64 (a2 - 1)), (by first | rfl | (simp; done) | (simp [*]; done)), (by first | rfl | (simp; done) | (simp [*]; done)), H', ⟨Nat.le_refl _⟩, ⟨by (with_reducible repeat (first | refine blk_drewN ?_ _ | refine blk_drew ?_ | refine blk_alloc ?_ _)); refine blk_far ?_ NB368_373.out _; (with_reducible repeat (first | refine blk_drewN ?_ _ | refine blk_drew ?_ | refine blk_alloc ?_ _)); refine blk_far ?_ NB368_373.out _; (with_reducible repeat (first | refine blk_drewN ?_ _ | refine blk_drew ?_ | refine blk_alloc ?_ _)); exact BK368.out⟩, ⟨by (with_reducible repeat (first | refine blk_drewN ?_ _ | refine blk_drew ?_ | refine blk_alloc ?_ _)); refine blk_far ?_ NB369_373.out _; (with_reducible repeat (first | refine blk_drewN ?_ _ | refine blk_drew ?_ | refine blk_alloc ?_ _)); refine blk_far ?_ NB369_373.out _; (with_reducible repeat (first | refine blk_drewN ?_ _ | refine blk_drew ?_ | refine blk_alloc ?_ _)); exact BK369.out⟩, ⟨by (with_reducible repeat (first | refine blk_drewN ?_ _ | refine blk_drew ?_ | refine blk_alloc ?_ _)); refine blk_put (cs := #[.int .u64 t371, .int .u64 0]) ?_ 1 _ rfl; (with_reducible repeat (first | refine blk_drewN ?_ _ | refine blk_drew ?_ | refine blk_alloc ?_ _)); refine blk_put (cs := #[.int .u64 0, .int .u64 0]) ?_ 0 _ rfl; (with_reducible repeat (first | refine blk_drewN ?_ _ | refine blk_drew ?_ | refine blk_alloc ?_ _)); exact BK373.out⟩, ⟨by repeat (first | (with_reducible first | exact HB.out | apply below_alloc | apply pw_below_drewN | apply below_drew1 | refine below_set ?_ GE368.out | refine below_set ?_ GE369.out | refine below_set ?_ GE373.out) | exact HB.out)⟩⟩
        case round =>
          clear H'
          try clear c1
          try clear p2
          try clear c5
          try clear p6
          try clear c8
          try clear c9
          try clear c9b0
          try clear c10
          try clear c12
          try clear c16
          try clear c17
          try clear c18
          try clear hcz13_0
          try clear hcz13_1
          try clear hcz14_0
          try clear hcz14_1
          try clear hcz19_0
          try clear hcz19_1
          try clear hfz13_0
          try clear hfz13_1
          try clear hfz14_0
          try clear hfz14_1
          try clear hfz19_0
          try clear hfz19_1
          try clear p2
          obtain ⟨x9_2, x10_2, rfl, rfl, HA, HK2, BK368, BK369, BK373, HB⟩ := hrel
          cases gk with
          | zero => exact absurd HA.out (by simp [turnoutlaw01_ValueCarries.l0])
          | succ k2 =>
            have H := HA.out
            clear HA
            simp only [turnoutlaw01_ValueCarries.l0] at H
            by_cases c20 : x10_2 ≥ 0
            · rw [if_pos c20] at H
              have c20b0 : decide (0 ≤ x10_2) = true := decide_eq_true c20
              clear c20
              replace H := Option.bind_eq_some_iff.mp H
              obtain ⟨t374, A210, H⟩ := H
              replace H : ((value_Bit.f a1_0 a1_1 a2 x10_2).bind fun t375 => ((value_Bit.f t371 t372 a2 x10_2).bind fun t376 => (if (t376 != ((t374 != t375) != x9_2)) = true then (some false) else (if t374 = true then (if t375 = true then (turnoutlaw01_ValueCarries.l0 k2 a2 t370 true (wrap64 (x10_2 - 1)) a0_0 a0_1 a1_0 a1_1 t371 t372) else (if x9_2 = true then (turnoutlaw01_ValueCarries.l0 k2 a2 t370 true (wrap64 (x10_2 - 1)) a0_0 a0_1 a1_0 a1_1 t371 t372) else (turnoutlaw01_ValueCarries.l0 k2 a2 t370 false (wrap64 (x10_2 - 1)) a0_0 a0_1 a1_0 a1_1 t371 t372))) else (if t375 = true then (turnoutlaw01_ValueCarries.l0 k2 a2 t370 x9_2 (wrap64 (x10_2 - 1)) a0_0 a0_1 a1_0 a1_1 t371 t372) else (turnoutlaw01_ValueCarries.l0 k2 a2 t370 false (wrap64 (x10_2 - 1)) a0_0 a0_1 a1_0 a1_1 t371 t372)))))) = some r := H
              have A21 := Aside0.mk A210
              clear A210
              replace H := Option.bind_eq_some_iff.mp H
              obtain ⟨t375, A220, H⟩ := H
              replace H : ((value_Bit.f t371 t372 a2 x10_2).bind fun t376 => (if (t376 != ((t374 != t375) != x9_2)) = true then (some false) else (if t374 = true then (if t375 = true then (turnoutlaw01_ValueCarries.l0 k2 a2 t370 true (wrap64 (x10_2 - 1)) a0_0 a0_1 a1_0 a1_1 t371 t372) else (if x9_2 = true then (turnoutlaw01_ValueCarries.l0 k2 a2 t370 true (wrap64 (x10_2 - 1)) a0_0 a0_1 a1_0 a1_1 t371 t372) else (turnoutlaw01_ValueCarries.l0 k2 a2 t370 false (wrap64 (x10_2 - 1)) a0_0 a0_1 a1_0 a1_1 t371 t372))) else (if t375 = true then (turnoutlaw01_ValueCarries.l0 k2 a2 t370 x9_2 (wrap64 (x10_2 - 1)) a0_0 a0_1 a1_0 a1_1 t371 t372) else (turnoutlaw01_ValueCarries.l0 k2 a2 t370 false (wrap64 (x10_2 - 1)) a0_0 a0_1 a1_0 a1_1 t371 t372))))) = some r := H
              have A22 := Aside0.mk A220
              clear A220
              replace H := Option.bind_eq_some_iff.mp H
              obtain ⟨t376, A230, H⟩ := H
              replace H : (if (t376 != ((t374 != t375) != x9_2)) = true then (some false) else (if t374 = true then (if t375 = true then (turnoutlaw01_ValueCarries.l0 k2 a2 t370 true (wrap64 (x10_2 - 1)) a0_0 a0_1 a1_0 a1_1 t371 t372) else (if x9_2 = true then (turnoutlaw01_ValueCarries.l0 k2 a2 t370 true (wrap64 (x10_2 - 1)) a0_0 a0_1 a1_0 a1_1 t371 t372) else (turnoutlaw01_ValueCarries.l0 k2 a2 t370 false (wrap64 (x10_2 - 1)) a0_0 a0_1 a1_0 a1_1 t371 t372))) else (if t375 = true then (turnoutlaw01_ValueCarries.l0 k2 a2 t370 x9_2 (wrap64 (x10_2 - 1)) a0_0 a0_1 a1_0 a1_1 t371 t372) else (turnoutlaw01_ValueCarries.l0 k2 a2 t370 false (wrap64 (x10_2 - 1)) a0_0 a0_1 a1_0 a1_1 t371 t372)))) = some r := H
              have A23 := Aside0.mk A230
              clear A230
              replace H : ∃ c, turnoutlaw01_ValueCarries.l0 k2 a2 t370 c (wrap64 (x10_2 - 1)) a0_0 a0_1 a1_0 a1_1 t371 t372 = some r ∧ t376 = ((t374 != t375) != x9_2) ∧ c = (if t374 = true then (if t375 = true then true else x9_2) else (if t375 = true then x9_2 else false)) := by
                have hr := hrt.out
                clear A21 A22 A23
                revert H; subst hr; cases t374 <;> cases t375 <;> cases x9_2 <;> cases t376 <;> (intro H; first | exact ⟨_, H, rfl, rfl⟩ | exact absurd (Option.some.inj H) (by decide))
              obtain ⟨cc, H, h376, hcc⟩ := H
              have H' := Aside0.mk H
              clear H
              cases t374 <;> cases t375 <;> cases x9_2 <;> simp only [Bool.bne_true, Bool.bne_false, Bool.not_true, Bool.not_false, if_true, if_false, Bool.false_eq_true] at h376 hcc <;> subst h376 <;> subst hcc
              all_goals (
                have hnb27 := NB368_369.out
                have hnc27 := NB369_368.out
                have hnb28 := NB368_373.out
                have hnc28 := NB373_368.out
                have hcz29_0 : wr.cell? ⟨gb368, 0, none⟩ = some (.int .u64 a0_0) := (blk_cell BK368.out 0).trans rfl
                have hcz29_1 : wr.cell? ⟨gb368, 1, none⟩ = some (.int .u64 a0_1) := (blk_cell BK368.out 1).trans rfl
                have hfz29_0 := blk_frozen BK368.out 0
                have hfz29_1 := blk_frozen BK368.out 1
                go_wp2_with (first | ((with_reducible refine gate_callee (f := 17) rfl ?_); refine goesL_ (some 38) rfl rfl Tryd.func17 (by kernel_rfl) rfl #[.agg #[.int .u64 a0_0, .int .u64 a0_1], .int .i64 a2, .int .i64 x10_2] rfl (by (try simp only [List.map_toArray, List.map_cons, List.map_nil]); first | done | rfl | (simp only [List.length_drop, List.length_take]; rfl)) ?_; (with_reducible refine (value_Bit.calls a0_0 a0_1 a2 x10_2 _ _ A21.out).mono ?_); rintro e w30 ⟨rfl, hb⟩; refine ⟨_, rfl, ?_⟩; have n0_ := Aside0.mk (blk_below (g := gb368) (o := .cells #[.int .u64 a0_0, .int .u64 a0_1] 24 (0, 0)) (by (with_reducible repeat (first | refine blk_drewN ?_ _ | refine blk_drew ?_ | refine blk_alloc ?_ _)); exact BK368.out) hb); have n1_ := Aside0.mk (blk_below (g := gb369) (o := .cells #[.int .u64 a1_0, .int .u64 a1_1] 24 (0, 0)) (by (with_reducible repeat (first | refine blk_drewN ?_ _ | refine blk_drew ?_ | refine blk_alloc ?_ _)); exact BK369.out) hb); have n2_ := Aside0.mk (blk_below (g := gb373) (o := .cells #[.int .u64 t371, .int .u64 t372] 24 (0, 0)) (by (with_reducible repeat (first | refine blk_drewN ?_ _ | refine blk_drew ?_ | refine blk_alloc ?_ _)); exact BK373.out) hb); have n3_ := Aside0.mk (below_step (by repeat (first | (with_reducible first | exact HB.out | apply below_alloc | apply pw_below_drewN | apply below_drew1 | refine below_set ?_ GE368.out | refine below_set ?_ GE369.out | refine below_set ?_ GE373.out) | exact HB.out)) hb); clear BK368; clear BK369; clear BK373; clear HB; have BK368 := n0_; have BK369 := n1_; have BK373 := n2_; have HB := n3_; clear n0_ n1_ n2_ n3_; (try clear hb); (try clear hb2); (try clear hk); (try clear hi); have hnb31 := NB369_373.out; have hnc31 := NB373_369.out; have hcz32_0 : w30.cell? ⟨gb369, 0, none⟩ = some (.int .u64 a1_0) := (blk_cell BK369.out 0).trans rfl; have hcz32_1 : w30.cell? ⟨gb369, 1, none⟩ = some (.int .u64 a1_1) := (blk_cell BK369.out 1).trans rfl; have hfz32_0 := blk_frozen BK369.out 0; have hfz32_1 := blk_frozen BK369.out 1) | ((with_reducible refine gate_callee (f := 17) rfl ?_); refine goesL_ (some 42) rfl rfl Tryd.func17 (by kernel_rfl) rfl #[.agg #[.int .u64 a1_0, .int .u64 a1_1], .int .i64 a2, .int .i64 x10_2] rfl (by (try simp only [List.map_toArray, List.map_cons, List.map_nil]); first | done | rfl | (simp only [List.length_drop, List.length_take]; rfl)) ?_; (with_reducible refine (value_Bit.calls a1_0 a1_1 a2 x10_2 _ _ A22.out).mono ?_); rintro e w33 ⟨rfl, hb⟩; refine ⟨_, rfl, ?_⟩; have n0_ := Aside0.mk (blk_below (g := gb368) (o := .cells #[.int .u64 a0_0, .int .u64 a0_1] 24 (0, 0)) (by (with_reducible repeat (first | refine blk_drewN ?_ _ | refine blk_drew ?_ | refine blk_alloc ?_ _)); exact BK368.out) hb); have n1_ := Aside0.mk (blk_below (g := gb369) (o := .cells #[.int .u64 a1_0, .int .u64 a1_1] 24 (0, 0)) (by (with_reducible repeat (first | refine blk_drewN ?_ _ | refine blk_drew ?_ | refine blk_alloc ?_ _)); exact BK369.out) hb); have n2_ := Aside0.mk (blk_below (g := gb373) (o := .cells #[.int .u64 t371, .int .u64 t372] 24 (0, 0)) (by (with_reducible repeat (first | refine blk_drewN ?_ _ | refine blk_drew ?_ | refine blk_alloc ?_ _)); exact BK373.out) hb); have n3_ := Aside0.mk (below_step (by repeat (first | (with_reducible first | exact HB.out | apply below_alloc | apply pw_below_drewN | apply below_drew1 | refine below_set ?_ GE368.out | refine below_set ?_ GE369.out | refine below_set ?_ GE373.out) | exact HB.out)) hb); clear BK368; clear BK369; clear BK373; clear HB; have BK368 := n0_; have BK369 := n1_; have BK373 := n2_; have HB := n3_; clear n0_ n1_ n2_ n3_; (try clear hb); (try clear hb2); (try clear hk); (try clear hi); have hcz34_0 : w33.cell? ⟨gb373, 0, none⟩ = some (.int .u64 t371) := (blk_cell BK373.out 0).trans rfl; have hcz34_1 : w33.cell? ⟨gb373, 1, none⟩ = some (.int .u64 t372) := (blk_cell BK373.out 1).trans rfl; have hfz34_0 := blk_frozen BK373.out 0; have hfz34_1 := blk_frozen BK373.out 1) | ((with_reducible refine gate_callee (f := 17) rfl ?_); refine goesL_ (some 46) rfl rfl Tryd.func17 (by kernel_rfl) rfl #[.agg #[.int .u64 t371, .int .u64 t372], .int .i64 a2, .int .i64 x10_2] rfl (by (try simp only [List.map_toArray, List.map_cons, List.map_nil]); first | done | rfl | (simp only [List.length_drop, List.length_take]; rfl)) ?_; (with_reducible refine (value_Bit.calls t371 t372 a2 x10_2 _ _ A23.out).mono ?_); rintro e w35 ⟨rfl, hb⟩; refine ⟨_, rfl, ?_⟩; have n0_ := Aside0.mk (blk_below (g := gb368) (o := .cells #[.int .u64 a0_0, .int .u64 a0_1] 24 (0, 0)) (by (with_reducible repeat (first | refine blk_drewN ?_ _ | refine blk_drew ?_ | refine blk_alloc ?_ _)); exact BK368.out) hb); have n1_ := Aside0.mk (blk_below (g := gb369) (o := .cells #[.int .u64 a1_0, .int .u64 a1_1] 24 (0, 0)) (by (with_reducible repeat (first | refine blk_drewN ?_ _ | refine blk_drew ?_ | refine blk_alloc ?_ _)); exact BK369.out) hb); have n2_ := Aside0.mk (blk_below (g := gb373) (o := .cells #[.int .u64 t371, .int .u64 t372] 24 (0, 0)) (by (with_reducible repeat (first | refine blk_drewN ?_ _ | refine blk_drew ?_ | refine blk_alloc ?_ _)); exact BK373.out) hb); have n3_ := Aside0.mk (below_step (by repeat (first | (with_reducible first | exact HB.out | apply below_alloc | apply pw_below_drewN | apply below_drew1 | refine below_set ?_ GE368.out | refine below_set ?_ GE369.out | refine below_set ?_ GE373.out) | exact HB.out)) hb); clear BK368; clear BK369; clear BK373; clear HB; have BK368 := n0_; have BK369 := n1_; have BK373 := n2_; have HB := n3_; clear n0_ n1_ n2_ n3_; (try clear hb); (try clear hb2); (try clear hk); (try clear hi)))
                go_roundg k2
                case measure => have := HJ4.out; have := HK2.out; omega
                case rel => exact ⟨_, (wrap64 (x10_2 - 1)), (by first | rfl | (simp; done) | (simp [*]; done)), (by first | rfl | (simp; done) | (simp [*]; done)), H', ⟨by have := HJ4.out; have := HK2.out; omega⟩, ⟨by (with_reducible repeat (first | refine blk_drewN ?_ _ | refine blk_drew ?_ | refine blk_alloc ?_ _)); exact BK368.out⟩, ⟨by (with_reducible repeat (first | refine blk_drewN ?_ _ | refine blk_drew ?_ | refine blk_alloc ?_ _)); exact BK369.out⟩, ⟨by (with_reducible repeat (first | refine blk_drewN ?_ _ | refine blk_drew ?_ | refine blk_alloc ?_ _)); exact BK373.out⟩, ⟨by repeat (first | (with_reducible first | exact HB.out | apply below_alloc | apply pw_below_drewN | apply below_drew1 | refine below_set ?_ GE368.out | refine below_set ?_ GE369.out | refine below_set ?_ GE373.out) | exact HB.out)⟩⟩)
            · rw [if_neg c20] at H
              have c20b0 : decide (0 ≤ x10_2) = false := decide_eq_false c20
              clear c20
              replace H := Option.bind_eq_some_iff.mp H
              obtain ⟨⟨t377, t378⟩, A740, H⟩ := H
              replace H : ((value_Add.f t377 t378 a1_0 a1_1 a2).bind fun bt380 => ((value_Sub.f a0_0 a0_1 a0_0 a0_1 a2).bind fun bt383 => (if t370 = true then ((value_Fits.f t371 t372 a2).bind fun t386 => (if t386 = true then ((value_Fits.f t377 t378 a2).bind fun t387 => (if t387 = true then ((value_Cut.f a0_0 a0_1 a2).bind fun bt388 => (if (bt380.1 == bt388.1 && (bt380.2 == bt388.2)) = true then (some (bt383.1 == 0 && (bt383.2 == 0))) else (some false))) else (some false))) else (some false))) else (some false)))) = some r := H
              have A74 := Aside0.mk A740
              clear A740
              replace H := Option.bind_eq_some_iff.mp H
              obtain ⟨⟨t380, t381⟩, A750, H⟩ := H
              replace H : ((value_Sub.f a0_0 a0_1 a0_0 a0_1 a2).bind fun bt383 => (if t370 = true then ((value_Fits.f t371 t372 a2).bind fun t386 => (if t386 = true then ((value_Fits.f t377 t378 a2).bind fun t387 => (if t387 = true then ((value_Cut.f a0_0 a0_1 a2).bind fun bt388 => (if (t380 == bt388.1 && (t381 == bt388.2)) = true then (some (bt383.1 == 0 && (bt383.2 == 0))) else (some false))) else (some false))) else (some false))) else (some false))) = some r := H
              have A75 := Aside0.mk A750
              clear A750
              replace H := Option.bind_eq_some_iff.mp H
              obtain ⟨⟨t383, t384⟩, A760, H⟩ := H
              replace H : (if t370 = true then ((value_Fits.f t371 t372 a2).bind fun t386 => (if t386 = true then ((value_Fits.f t377 t378 a2).bind fun t387 => (if t387 = true then ((value_Cut.f a0_0 a0_1 a2).bind fun bt388 => (if (t380 == bt388.1 && (t381 == bt388.2)) = true then (some (t383 == 0 && (t384 == 0))) else (some false))) else (some false))) else (some false))) else (some false)) = some r := H
              have A76 := Aside0.mk A760
              clear A760
              by_cases c77 : t370 = true
              · subst c77
                have H1 : ((value_Fits.f t371 t372 a2).bind fun t386 => (if t386 = true then ((value_Fits.f t377 t378 a2).bind fun t387 => (if t387 = true then ((value_Cut.f a0_0 a0_1 a2).bind fun bt388 => (if (t380 == bt388.1 && (t381 == bt388.2)) = true then (some (t383 == 0 && (t384 == 0))) else (some false))) else (some false))) else (some false))) = some r := by rw [if_pos rfl] at H; exact H
                clear H
                have H := H1
                clear H1
                replace H := Option.bind_eq_some_iff.mp H
                obtain ⟨t386, A780, H⟩ := H
                replace H : (if t386 = true then ((value_Fits.f t377 t378 a2).bind fun t387 => (if t387 = true then ((value_Cut.f a0_0 a0_1 a2).bind fun bt388 => (if (t380 == bt388.1 && (t381 == bt388.2)) = true then (some (t383 == 0 && (t384 == 0))) else (some false))) else (some false))) else (some false)) = some r := H
                have A78 := Aside0.mk A780
                clear A780
                by_cases c79 : t386 = true
                · subst c79
                  have H1 : ((value_Fits.f t377 t378 a2).bind fun t387 => (if t387 = true then ((value_Cut.f a0_0 a0_1 a2).bind fun bt388 => (if (t380 == bt388.1 && (t381 == bt388.2)) = true then (some (t383 == 0 && (t384 == 0))) else (some false))) else (some false))) = some r := by rw [if_pos rfl] at H; exact H
                  clear H
                  have H := H1
                  clear H1
                  replace H := Option.bind_eq_some_iff.mp H
                  obtain ⟨t387, A800, H⟩ := H
                  replace H : (if t387 = true then ((value_Cut.f a0_0 a0_1 a2).bind fun bt388 => (if (t380 == bt388.1 && (t381 == bt388.2)) = true then (some (t383 == 0 && (t384 == 0))) else (some false))) else (some false)) = some r := H
                  have A80 := Aside0.mk A800
                  clear A800
                  by_cases c81 : t387 = true
                  · subst c81
                    have H1 : ((value_Cut.f a0_0 a0_1 a2).bind fun bt388 => (if (t380 == bt388.1 && (t381 == bt388.2)) = true then (some (t383 == 0 && (t384 == 0))) else (some false))) = some r := by rw [if_pos rfl] at H; exact H
                    clear H
                    have H := H1
                    clear H1
                    replace H := Option.bind_eq_some_iff.mp H
                    obtain ⟨⟨t388, t389⟩, A820, H⟩ := H
                    replace H : (if (t380 == t388 && (t381 == t389)) = true then (some (t383 == 0 && (t384 == 0))) else (some false)) = some r := H
                    have A82 := Aside0.mk A820
                    clear A820
                    by_cases c83 : (t380 == t388 && (t381 == t389)) = true
                    · rw [if_pos c83] at H
                      have c83b0 : (t380 == t388 && (t381 == t389)) = true := c83
                      (try (have c83b1 : decide (t380 = t388 && (t381 == t389)) = true := by simpa using c83))
                      (try (have c83b2 : (t380 == t388 && (t381 == t389)) = true := by simpa using c83))
                      clear c83
                      obtain rfl := Option.some.inj H
                      have hnb84 := NB368_369.out
                      have hnc84 := NB369_368.out
                      have hnb85 := NB368_373.out
                      have hnc85 := NB373_368.out
                      have hcz86_0 : wr.cell? ⟨gb368, 0, none⟩ = some (.int .u64 a0_0) := (blk_cell BK368.out 0).trans rfl
                      have hcz86_1 : wr.cell? ⟨gb368, 1, none⟩ = some (.int .u64 a0_1) := (blk_cell BK368.out 1).trans rfl
                      have hfz86_0 := blk_frozen BK368.out 0
                      have hfz86_1 := blk_frozen BK368.out 1
                      have hnb87 := NB369_373.out
                      have hnc87 := NB373_369.out
                      have hcz88_0 : wr.cell? ⟨gb369, 0, none⟩ = some (.int .u64 a1_0) := (blk_cell BK369.out 0).trans rfl
                      have hcz88_1 : wr.cell? ⟨gb369, 1, none⟩ = some (.int .u64 a1_1) := (blk_cell BK369.out 1).trans rfl
                      have hfz88_0 := blk_frozen BK369.out 0
                      have hfz88_1 := blk_frozen BK369.out 1
                      try go_wp2_with (first | ((with_reducible refine gate_callee (f := 18) rfl ?_); refine goesL_ (some 73) rfl rfl Tryd.func18 (by kernel_rfl) rfl #[.agg #[.int .u64 a0_0, .int .u64 a0_1], .agg #[.int .u64 a1_0, .int .u64 a1_1], .int .i64 a2] rfl (by (try simp only [List.map_toArray, List.map_cons, List.map_nil]); first | done | rfl | (simp only [List.length_drop, List.length_take]; rfl)) ?_; (with_reducible refine (value_Sub.calls a0_0 a0_1 a1_0 a1_1 a2 t377 t378 _ A74.out).mono ?_); rintro e w89 ⟨rfl, hb⟩; refine ⟨_, rfl, ?_⟩; have n0_ := Aside0.mk (blk_below (g := gb368) (o := .cells #[.int .u64 a0_0, .int .u64 a0_1] 24 (0, 0)) (by (with_reducible repeat (first | refine blk_drewN ?_ _ | refine blk_drew ?_ | refine blk_alloc ?_ _)); exact BK368.out) hb); have n1_ := Aside0.mk (blk_below (g := gb369) (o := .cells #[.int .u64 a1_0, .int .u64 a1_1] 24 (0, 0)) (by (with_reducible repeat (first | refine blk_drewN ?_ _ | refine blk_drew ?_ | refine blk_alloc ?_ _)); exact BK369.out) hb); have n2_ := Aside0.mk (blk_below (g := gb373) (o := .cells #[.int .u64 t371, .int .u64 t372] 24 (0, 0)) (by (with_reducible repeat (first | refine blk_drewN ?_ _ | refine blk_drew ?_ | refine blk_alloc ?_ _)); exact BK373.out) hb); have n3_ := Aside0.mk (below_step (by repeat (first | (with_reducible first | exact HB.out | apply below_alloc | apply pw_below_drewN | apply below_drew1 | refine below_set ?_ GE368.out | refine below_set ?_ GE369.out | refine below_set ?_ GE373.out) | exact HB.out)) hb); clear BK368; clear BK369; clear BK373; clear HB; have BK368 := n0_; have BK369 := n1_; have BK373 := n2_; have HB := n3_; clear n0_ n1_ n2_ n3_; (try clear hb); (try clear hb2); (try clear hk); (try clear hi)) | ((with_reducible refine gate_dst (N := 14) rfl ?_); refine box_event ?hg (N := 14) ?hd (cs := #[.int .u64 0, .int .u64 0]) (t := 24) ?hr ?_; (case hd => rfl); (case hg => rfl); (case hr => first | (go_simp; done) | (go_simp; rfl)); intro gb379 hg w90 hbox hb; have n0_ := Aside0.mk (blk_below (g := gb368) (o := .cells #[.int .u64 a0_0, .int .u64 a0_1] 24 (0, 0)) (by (with_reducible repeat (first | refine blk_drewN ?_ _ | refine blk_drew ?_ | refine blk_alloc ?_ _)); exact BK368.out) hb); have n1_ := Aside0.mk (blk_below (g := gb369) (o := .cells #[.int .u64 a1_0, .int .u64 a1_1] 24 (0, 0)) (by (with_reducible repeat (first | refine blk_drewN ?_ _ | refine blk_drew ?_ | refine blk_alloc ?_ _)); exact BK369.out) hb); have n2_ := Aside0.mk (blk_below (g := gb373) (o := .cells #[.int .u64 t371, .int .u64 t372] 24 (0, 0)) (by (with_reducible repeat (first | refine blk_drewN ?_ _ | refine blk_drew ?_ | refine blk_alloc ?_ _)); exact BK373.out) hb); have n3_ := Aside0.mk (below_step (by repeat (first | (with_reducible first | exact HB.out | apply below_alloc | apply pw_below_drewN | apply below_drew1 | refine below_set ?_ GE368.out | refine below_set ?_ GE369.out | refine below_set ?_ GE373.out) | exact HB.out)) hb); have n4_ := Aside0.mk (hbox); have n5_ := Aside0.mk ((by rw [hg]; exact (below_size (by repeat (first | (with_reducible first | exact HB.out | apply below_alloc | apply pw_below_drewN | apply below_drew1 | refine below_set ?_ GE368.out | refine below_set ?_ GE369.out | refine below_set ?_ GE373.out) | exact HB.out))) : w.heap.size ≤ gb379)); have n6_ := Aside0.mk ((by rw [hg]; exact (below_size (by repeat (first | (with_reducible first | exact HB.out | apply below_alloc | apply pw_below_drewN | apply below_drew1 | refine below_set ?_ GE368.out | refine below_set ?_ GE369.out | refine below_set ?_ GE373.out) | exact HB.out))) : w.heap.size ≤ gb379)); have n7_ := Aside0.mk ((by rw [hg]; exact Nat.ne_of_lt (blk_lt (g := gb368) (o := .cells #[.int .u64 a0_0, .int .u64 a0_1] 24 (0, 0)) (by (with_reducible repeat (first | refine blk_drewN ?_ _ | refine blk_drew ?_ | refine blk_alloc ?_ _)); exact BK368.out)) : gb368 ≠ gb379)); have n8_ := Aside0.mk ((by rw [hg]; exact Nat.ne_of_gt (blk_lt (g := gb368) (o := .cells #[.int .u64 a0_0, .int .u64 a0_1] 24 (0, 0)) (by (with_reducible repeat (first | refine blk_drewN ?_ _ | refine blk_drew ?_ | refine blk_alloc ?_ _)); exact BK368.out)) : gb379 ≠ gb368)); have n9_ := Aside0.mk ((by rw [hg]; exact Nat.ne_of_lt (blk_lt (g := gb369) (o := .cells #[.int .u64 a1_0, .int .u64 a1_1] 24 (0, 0)) (by (with_reducible repeat (first | refine blk_drewN ?_ _ | refine blk_drew ?_ | refine blk_alloc ?_ _)); exact BK369.out)) : gb369 ≠ gb379)); have n10_ := Aside0.mk ((by rw [hg]; exact Nat.ne_of_gt (blk_lt (g := gb369) (o := .cells #[.int .u64 a1_0, .int .u64 a1_1] 24 (0, 0)) (by (with_reducible repeat (first | refine blk_drewN ?_ _ | refine blk_drew ?_ | refine blk_alloc ?_ _)); exact BK369.out)) : gb379 ≠ gb369)); have n11_ := Aside0.mk ((by rw [hg]; exact Nat.ne_of_lt (blk_lt (g := gb373) (o := .cells #[.int .u64 t371, .int .u64 t372] 24 (0, 0)) (by (with_reducible repeat (first | refine blk_drewN ?_ _ | refine blk_drew ?_ | refine blk_alloc ?_ _)); exact BK373.out)) : gb373 ≠ gb379)); have n12_ := Aside0.mk ((by rw [hg]; exact Nat.ne_of_gt (blk_lt (g := gb373) (o := .cells #[.int .u64 t371, .int .u64 t372] 24 (0, 0)) (by (with_reducible repeat (first | refine blk_drewN ?_ _ | refine blk_drew ?_ | refine blk_alloc ?_ _)); exact BK373.out)) : gb379 ≠ gb373)); clear BK368; clear BK369; clear BK373; clear HB; have BK368 := n0_; have BK369 := n1_; have BK373 := n2_; have HB := n3_; have BK379 := n4_; have GW379 := n5_; have GE379 := n6_; have NB368_379 := n7_; have NB379_368 := n8_; have NB369_379 := n9_; have NB379_369 := n10_; have NB373_379 := n11_; have NB379_373 := n12_; clear n0_ n1_ n2_ n3_ n4_ n5_ n6_ n7_ n8_ n9_ n10_ n11_ n12_; clear hb hbox hg; have hnb91 := NB379_368.out; have hnc91 := NB368_379.out; have hnb92 := NB379_369.out; have hnc92 := NB369_379.out; have hnb93 := NB379_373.out; have hnc93 := NB373_379.out; have hcz94_0 : w90.cell? ⟨gb379, 0, none⟩ = some (.int .u64 0) := (blk_cell BK379.out 0).trans rfl; have hcz94_1 : w90.cell? ⟨gb379, 1, none⟩ = some (.int .u64 0) := (blk_cell BK379.out 1).trans rfl; have hfz94_0 := blk_frozen BK379.out 0; have hfz94_1 := blk_frozen BK379.out 1; have hcz95_0 : w90.cell? ⟨gb369, 0, none⟩ = some (.int .u64 a1_0) := (blk_cell BK369.out 0).trans rfl; have hcz95_1 : w90.cell? ⟨gb369, 1, none⟩ = some (.int .u64 a1_1) := (blk_cell BK369.out 1).trans rfl; have hfz95_0 := blk_frozen BK369.out 0; have hfz95_1 := blk_frozen BK369.out 1) | ((with_reducible refine gate_callee (f := 16) rfl ?_); refine goesL_ (some 77) rfl rfl Tryd.func16 (by kernel_rfl) rfl #[.agg #[.int .u64 t377, .int .u64 t378], .agg #[.int .u64 a1_0, .int .u64 a1_1], .int .i64 a2] rfl (by (try simp only [List.map_toArray, List.map_cons, List.map_nil]); first | done | rfl | (simp only [List.length_drop, List.length_take]; rfl)) ?_; (with_reducible refine (value_Add.calls t377 t378 a1_0 a1_1 a2 t380 t381 _ A75.out).mono ?_); rintro e w96 ⟨rfl, hb⟩; refine ⟨_, rfl, ?_⟩; have n0_ := Aside0.mk (blk_below (g := gb368) (o := .cells #[.int .u64 a0_0, .int .u64 a0_1] 24 (0, 0)) (by (with_reducible repeat (first | refine blk_drewN ?_ _ | refine blk_drew ?_ | refine blk_alloc ?_ _)); refine blk_far ?_ NB368_379.out _; (with_reducible repeat (first | refine blk_drewN ?_ _ | refine blk_drew ?_ | refine blk_alloc ?_ _)); refine blk_far ?_ NB368_379.out _; (with_reducible repeat (first | refine blk_drewN ?_ _ | refine blk_drew ?_ | refine blk_alloc ?_ _)); exact BK368.out) hb); have n1_ := Aside0.mk (blk_below (g := gb369) (o := .cells #[.int .u64 a1_0, .int .u64 a1_1] 24 (0, 0)) (by (with_reducible repeat (first | refine blk_drewN ?_ _ | refine blk_drew ?_ | refine blk_alloc ?_ _)); refine blk_far ?_ NB369_379.out _; (with_reducible repeat (first | refine blk_drewN ?_ _ | refine blk_drew ?_ | refine blk_alloc ?_ _)); refine blk_far ?_ NB369_379.out _; (with_reducible repeat (first | refine blk_drewN ?_ _ | refine blk_drew ?_ | refine blk_alloc ?_ _)); exact BK369.out) hb); have n2_ := Aside0.mk (blk_below (g := gb373) (o := .cells #[.int .u64 t371, .int .u64 t372] 24 (0, 0)) (by (with_reducible repeat (first | refine blk_drewN ?_ _ | refine blk_drew ?_ | refine blk_alloc ?_ _)); refine blk_far ?_ NB373_379.out _; (with_reducible repeat (first | refine blk_drewN ?_ _ | refine blk_drew ?_ | refine blk_alloc ?_ _)); refine blk_far ?_ NB373_379.out _; (with_reducible repeat (first | refine blk_drewN ?_ _ | refine blk_drew ?_ | refine blk_alloc ?_ _)); exact BK373.out) hb); have n3_ := Aside0.mk (blk_below (g := gb379) (o := .cells #[.int .u64 t377, .int .u64 t378] 24 (0, 0)) (by (with_reducible repeat (first | refine blk_drewN ?_ _ | refine blk_drew ?_ | refine blk_alloc ?_ _)); refine blk_put (cs := #[.int .u64 t377, .int .u64 0]) ?_ 1 _ rfl; (with_reducible repeat (first | refine blk_drewN ?_ _ | refine blk_drew ?_ | refine blk_alloc ?_ _)); refine blk_put (cs := #[.int .u64 0, .int .u64 0]) ?_ 0 _ rfl; (with_reducible repeat (first | refine blk_drewN ?_ _ | refine blk_drew ?_ | refine blk_alloc ?_ _)); exact BK379.out) hb); have n4_ := Aside0.mk (below_step (by repeat (first | (with_reducible first | exact HB.out | apply below_alloc | apply pw_below_drewN | apply below_drew1 | refine below_set ?_ GE368.out | refine below_set ?_ GE369.out | refine below_set ?_ GE373.out | refine below_set ?_ GE379.out) | exact HB.out)) hb); clear BK368; clear BK369; clear BK373; clear BK379; clear HB; have BK368 := n0_; have BK369 := n1_; have BK373 := n2_; have BK379 := n3_; have HB := n4_; clear n0_ n1_ n2_ n3_ n4_; (try clear hb); (try clear hb2); (try clear hk); (try clear hi)) | ((with_reducible refine gate_dst (N := 15) rfl ?_); refine box_event ?hg (N := 15) ?hd (cs := #[.int .u64 0, .int .u64 0]) (t := 24) ?hr ?_; (case hd => rfl); (case hg => rfl); (case hr => first | (go_simp; done) | (go_simp; rfl)); intro gb382 hg w97 hbox hb; have n0_ := Aside0.mk (blk_below (g := gb368) (o := .cells #[.int .u64 a0_0, .int .u64 a0_1] 24 (0, 0)) (by (with_reducible repeat (first | refine blk_drewN ?_ _ | refine blk_drew ?_ | refine blk_alloc ?_ _)); exact BK368.out) hb); have n1_ := Aside0.mk (blk_below (g := gb369) (o := .cells #[.int .u64 a1_0, .int .u64 a1_1] 24 (0, 0)) (by (with_reducible repeat (first | refine blk_drewN ?_ _ | refine blk_drew ?_ | refine blk_alloc ?_ _)); exact BK369.out) hb); have n2_ := Aside0.mk (blk_below (g := gb373) (o := .cells #[.int .u64 t371, .int .u64 t372] 24 (0, 0)) (by (with_reducible repeat (first | refine blk_drewN ?_ _ | refine blk_drew ?_ | refine blk_alloc ?_ _)); exact BK373.out) hb); have n3_ := Aside0.mk (blk_below (g := gb379) (o := .cells #[.int .u64 t377, .int .u64 t378] 24 (0, 0)) (by (with_reducible repeat (first | refine blk_drewN ?_ _ | refine blk_drew ?_ | refine blk_alloc ?_ _)); exact BK379.out) hb); have n4_ := Aside0.mk (below_step (by repeat (first | (with_reducible first | exact HB.out | apply below_alloc | apply pw_below_drewN | apply below_drew1 | refine below_set ?_ GE368.out | refine below_set ?_ GE369.out | refine below_set ?_ GE373.out | refine below_set ?_ GE379.out) | exact HB.out)) hb); have n5_ := Aside0.mk (hbox); have n6_ := Aside0.mk ((by rw [hg]; exact (below_size (by repeat (first | (with_reducible first | exact HB.out | apply below_alloc | apply pw_below_drewN | apply below_drew1 | refine below_set ?_ GE368.out | refine below_set ?_ GE369.out | refine below_set ?_ GE373.out | refine below_set ?_ GE379.out) | exact HB.out))) : w.heap.size ≤ gb382)); have n7_ := Aside0.mk ((by rw [hg]; exact (below_size (by repeat (first | (with_reducible first | exact HB.out | apply below_alloc | apply pw_below_drewN | apply below_drew1 | refine below_set ?_ GE368.out | refine below_set ?_ GE369.out | refine below_set ?_ GE373.out | refine below_set ?_ GE379.out) | exact HB.out))) : w.heap.size ≤ gb382)); have n8_ := Aside0.mk ((by rw [hg]; exact Nat.ne_of_lt (blk_lt (g := gb368) (o := .cells #[.int .u64 a0_0, .int .u64 a0_1] 24 (0, 0)) (by (with_reducible repeat (first | refine blk_drewN ?_ _ | refine blk_drew ?_ | refine blk_alloc ?_ _)); exact BK368.out)) : gb368 ≠ gb382)); have n9_ := Aside0.mk ((by rw [hg]; exact Nat.ne_of_gt (blk_lt (g := gb368) (o := .cells #[.int .u64 a0_0, .int .u64 a0_1] 24 (0, 0)) (by (with_reducible repeat (first | refine blk_drewN ?_ _ | refine blk_drew ?_ | refine blk_alloc ?_ _)); exact BK368.out)) : gb382 ≠ gb368)); have n10_ := Aside0.mk ((by rw [hg]; exact Nat.ne_of_lt (blk_lt (g := gb369) (o := .cells #[.int .u64 a1_0, .int .u64 a1_1] 24 (0, 0)) (by (with_reducible repeat (first | refine blk_drewN ?_ _ | refine blk_drew ?_ | refine blk_alloc ?_ _)); exact BK369.out)) : gb369 ≠ gb382)); have n11_ := Aside0.mk ((by rw [hg]; exact Nat.ne_of_gt (blk_lt (g := gb369) (o := .cells #[.int .u64 a1_0, .int .u64 a1_1] 24 (0, 0)) (by (with_reducible repeat (first | refine blk_drewN ?_ _ | refine blk_drew ?_ | refine blk_alloc ?_ _)); exact BK369.out)) : gb382 ≠ gb369)); have n12_ := Aside0.mk ((by rw [hg]; exact Nat.ne_of_lt (blk_lt (g := gb373) (o := .cells #[.int .u64 t371, .int .u64 t372] 24 (0, 0)) (by (with_reducible repeat (first | refine blk_drewN ?_ _ | refine blk_drew ?_ | refine blk_alloc ?_ _)); exact BK373.out)) : gb373 ≠ gb382)); have n13_ := Aside0.mk ((by rw [hg]; exact Nat.ne_of_gt (blk_lt (g := gb373) (o := .cells #[.int .u64 t371, .int .u64 t372] 24 (0, 0)) (by (with_reducible repeat (first | refine blk_drewN ?_ _ | refine blk_drew ?_ | refine blk_alloc ?_ _)); exact BK373.out)) : gb382 ≠ gb373)); have n14_ := Aside0.mk ((by rw [hg]; exact Nat.ne_of_lt (blk_lt (g := gb379) (o := .cells #[.int .u64 t377, .int .u64 t378] 24 (0, 0)) (by (with_reducible repeat (first | refine blk_drewN ?_ _ | refine blk_drew ?_ | refine blk_alloc ?_ _)); exact BK379.out)) : gb379 ≠ gb382)); have n15_ := Aside0.mk ((by rw [hg]; exact Nat.ne_of_gt (blk_lt (g := gb379) (o := .cells #[.int .u64 t377, .int .u64 t378] 24 (0, 0)) (by (with_reducible repeat (first | refine blk_drewN ?_ _ | refine blk_drew ?_ | refine blk_alloc ?_ _)); exact BK379.out)) : gb382 ≠ gb379)); clear BK368; clear BK369; clear BK373; clear BK379; clear HB; have BK368 := n0_; have BK369 := n1_; have BK373 := n2_; have BK379 := n3_; have HB := n4_; have BK382 := n5_; have GW382 := n6_; have GE382 := n7_; have NB368_382 := n8_; have NB382_368 := n9_; have NB369_382 := n10_; have NB382_369 := n11_; have NB373_382 := n12_; have NB382_373 := n13_; have NB379_382 := n14_; have NB382_379 := n15_; clear n0_ n1_ n2_ n3_ n4_ n5_ n6_ n7_ n8_ n9_ n10_ n11_ n12_ n13_ n14_ n15_; clear hb hbox hg; have hnb98 := NB382_368.out; have hnc98 := NB368_382.out; have hnb99 := NB382_369.out; have hnc99 := NB369_382.out; have hnb100 := NB382_373.out; have hnc100 := NB373_382.out; have hnb101 := NB382_379.out; have hnc101 := NB379_382.out; have hcz102_0 : w97.cell? ⟨gb382, 0, none⟩ = some (.int .u64 0) := (blk_cell BK382.out 0).trans rfl; have hcz102_1 : w97.cell? ⟨gb382, 1, none⟩ = some (.int .u64 0) := (blk_cell BK382.out 1).trans rfl; have hfz102_0 := blk_frozen BK382.out 0; have hfz102_1 := blk_frozen BK382.out 1; have hcz103_0 : w97.cell? ⟨gb368, 0, none⟩ = some (.int .u64 a0_0) := (blk_cell BK368.out 0).trans rfl; have hcz103_1 : w97.cell? ⟨gb368, 1, none⟩ = some (.int .u64 a0_1) := (blk_cell BK368.out 1).trans rfl; have hfz103_0 := blk_frozen BK368.out 0; have hfz103_1 := blk_frozen BK368.out 1) | ((with_reducible refine gate_callee (f := 18) rfl ?_); refine goesL_ (some 81) rfl rfl Tryd.func18 (by kernel_rfl) rfl #[.agg #[.int .u64 a0_0, .int .u64 a0_1], .agg #[.int .u64 a0_0, .int .u64 a0_1], .int .i64 a2] rfl (by (try simp only [List.map_toArray, List.map_cons, List.map_nil]); first | done | rfl | (simp only [List.length_drop, List.length_take]; rfl)) ?_; (with_reducible refine (value_Sub.calls a0_0 a0_1 a0_0 a0_1 a2 t383 t384 _ A76.out).mono ?_); rintro e w104 ⟨rfl, hb⟩; refine ⟨_, rfl, ?_⟩; have n0_ := Aside0.mk (blk_below (g := gb368) (o := .cells #[.int .u64 a0_0, .int .u64 a0_1] 24 (0, 0)) (by (with_reducible repeat (first | refine blk_drewN ?_ _ | refine blk_drew ?_ | refine blk_alloc ?_ _)); refine blk_far ?_ NB368_382.out _; (with_reducible repeat (first | refine blk_drewN ?_ _ | refine blk_drew ?_ | refine blk_alloc ?_ _)); refine blk_far ?_ NB368_382.out _; (with_reducible repeat (first | refine blk_drewN ?_ _ | refine blk_drew ?_ | refine blk_alloc ?_ _)); exact BK368.out) hb); have n1_ := Aside0.mk (blk_below (g := gb369) (o := .cells #[.int .u64 a1_0, .int .u64 a1_1] 24 (0, 0)) (by (with_reducible repeat (first | refine blk_drewN ?_ _ | refine blk_drew ?_ | refine blk_alloc ?_ _)); refine blk_far ?_ NB369_382.out _; (with_reducible repeat (first | refine blk_drewN ?_ _ | refine blk_drew ?_ | refine blk_alloc ?_ _)); refine blk_far ?_ NB369_382.out _; (with_reducible repeat (first | refine blk_drewN ?_ _ | refine blk_drew ?_ | refine blk_alloc ?_ _)); exact BK369.out) hb); have n2_ := Aside0.mk (blk_below (g := gb373) (o := .cells #[.int .u64 t371, .int .u64 t372] 24 (0, 0)) (by (with_reducible repeat (first | refine blk_drewN ?_ _ | refine blk_drew ?_ | refine blk_alloc ?_ _)); refine blk_far ?_ NB373_382.out _; (with_reducible repeat (first | refine blk_drewN ?_ _ | refine blk_drew ?_ | refine blk_alloc ?_ _)); refine blk_far ?_ NB373_382.out _; (with_reducible repeat (first | refine blk_drewN ?_ _ | refine blk_drew ?_ | refine blk_alloc ?_ _)); exact BK373.out) hb); have n3_ := Aside0.mk (blk_below (g := gb379) (o := .cells #[.int .u64 t377, .int .u64 t378] 24 (0, 0)) (by (with_reducible repeat (first | refine blk_drewN ?_ _ | refine blk_drew ?_ | refine blk_alloc ?_ _)); refine blk_far ?_ NB379_382.out _; (with_reducible repeat (first | refine blk_drewN ?_ _ | refine blk_drew ?_ | refine blk_alloc ?_ _)); refine blk_far ?_ NB379_382.out _; (with_reducible repeat (first | refine blk_drewN ?_ _ | refine blk_drew ?_ | refine blk_alloc ?_ _)); exact BK379.out) hb); have n4_ := Aside0.mk (blk_below (g := gb382) (o := .cells #[.int .u64 t380, .int .u64 t381] 24 (0, 0)) (by (with_reducible repeat (first | refine blk_drewN ?_ _ | refine blk_drew ?_ | refine blk_alloc ?_ _)); refine blk_put (cs := #[.int .u64 t380, .int .u64 0]) ?_ 1 _ rfl; (with_reducible repeat (first | refine blk_drewN ?_ _ | refine blk_drew ?_ | refine blk_alloc ?_ _)); refine blk_put (cs := #[.int .u64 0, .int .u64 0]) ?_ 0 _ rfl; (with_reducible repeat (first | refine blk_drewN ?_ _ | refine blk_drew ?_ | refine blk_alloc ?_ _)); exact BK382.out) hb); have n5_ := Aside0.mk (below_step (by repeat (first | (with_reducible first | exact HB.out | apply below_alloc | apply pw_below_drewN | apply below_drew1 | refine below_set ?_ GE368.out | refine below_set ?_ GE369.out | refine below_set ?_ GE373.out | refine below_set ?_ GE379.out | refine below_set ?_ GE382.out) | exact HB.out)) hb); clear BK368; clear BK369; clear BK373; clear BK379; clear BK382; clear HB; have BK368 := n0_; have BK369 := n1_; have BK373 := n2_; have BK379 := n3_; have BK382 := n4_; have HB := n5_; clear n0_ n1_ n2_ n3_ n4_ n5_; (try clear hb); (try clear hb2); (try clear hk); (try clear hi)) | ((with_reducible refine gate_dst (N := 16) rfl ?_); refine box_event ?hg (N := 16) ?hd (cs := #[.int .u64 0, .int .u64 0]) (t := 24) ?hr ?_; (case hd => rfl); (case hg => rfl); (case hr => first | (go_simp; done) | (go_simp; rfl)); intro gb385 hg w105 hbox hb; have n0_ := Aside0.mk (blk_below (g := gb368) (o := .cells #[.int .u64 a0_0, .int .u64 a0_1] 24 (0, 0)) (by (with_reducible repeat (first | refine blk_drewN ?_ _ | refine blk_drew ?_ | refine blk_alloc ?_ _)); exact BK368.out) hb); have n1_ := Aside0.mk (blk_below (g := gb369) (o := .cells #[.int .u64 a1_0, .int .u64 a1_1] 24 (0, 0)) (by (with_reducible repeat (first | refine blk_drewN ?_ _ | refine blk_drew ?_ | refine blk_alloc ?_ _)); exact BK369.out) hb); have n2_ := Aside0.mk (blk_below (g := gb373) (o := .cells #[.int .u64 t371, .int .u64 t372] 24 (0, 0)) (by (with_reducible repeat (first | refine blk_drewN ?_ _ | refine blk_drew ?_ | refine blk_alloc ?_ _)); exact BK373.out) hb); have n3_ := Aside0.mk (blk_below (g := gb379) (o := .cells #[.int .u64 t377, .int .u64 t378] 24 (0, 0)) (by (with_reducible repeat (first | refine blk_drewN ?_ _ | refine blk_drew ?_ | refine blk_alloc ?_ _)); exact BK379.out) hb); have n4_ := Aside0.mk (blk_below (g := gb382) (o := .cells #[.int .u64 t380, .int .u64 t381] 24 (0, 0)) (by (with_reducible repeat (first | refine blk_drewN ?_ _ | refine blk_drew ?_ | refine blk_alloc ?_ _)); exact BK382.out) hb); have n5_ := Aside0.mk (below_step (by repeat (first | (with_reducible first | exact HB.out | apply below_alloc | apply pw_below_drewN | apply below_drew1 | refine below_set ?_ GE368.out | refine below_set ?_ GE369.out | refine below_set ?_ GE373.out | refine below_set ?_ GE379.out | refine below_set ?_ GE382.out) | exact HB.out)) hb); have n6_ := Aside0.mk (hbox); have n7_ := Aside0.mk ((by rw [hg]; exact (below_size (by repeat (first | (with_reducible first | exact HB.out | apply below_alloc | apply pw_below_drewN | apply below_drew1 | refine below_set ?_ GE368.out | refine below_set ?_ GE369.out | refine below_set ?_ GE373.out | refine below_set ?_ GE379.out | refine below_set ?_ GE382.out) | exact HB.out))) : w.heap.size ≤ gb385)); have n8_ := Aside0.mk ((by rw [hg]; exact (below_size (by repeat (first | (with_reducible first | exact HB.out | apply below_alloc | apply pw_below_drewN | apply below_drew1 | refine below_set ?_ GE368.out | refine below_set ?_ GE369.out | refine below_set ?_ GE373.out | refine below_set ?_ GE379.out | refine below_set ?_ GE382.out) | exact HB.out))) : w.heap.size ≤ gb385)); have n9_ := Aside0.mk ((by rw [hg]; exact Nat.ne_of_lt (blk_lt (g := gb368) (o := .cells #[.int .u64 a0_0, .int .u64 a0_1] 24 (0, 0)) (by (with_reducible repeat (first | refine blk_drewN ?_ _ | refine blk_drew ?_ | refine blk_alloc ?_ _)); exact BK368.out)) : gb368 ≠ gb385)); have n10_ := Aside0.mk ((by rw [hg]; exact Nat.ne_of_gt (blk_lt (g := gb368) (o := .cells #[.int .u64 a0_0, .int .u64 a0_1] 24 (0, 0)) (by (with_reducible repeat (first | refine blk_drewN ?_ _ | refine blk_drew ?_ | refine blk_alloc ?_ _)); exact BK368.out)) : gb385 ≠ gb368)); have n11_ := Aside0.mk ((by rw [hg]; exact Nat.ne_of_lt (blk_lt (g := gb369) (o := .cells #[.int .u64 a1_0, .int .u64 a1_1] 24 (0, 0)) (by (with_reducible repeat (first | refine blk_drewN ?_ _ | refine blk_drew ?_ | refine blk_alloc ?_ _)); exact BK369.out)) : gb369 ≠ gb385)); have n12_ := Aside0.mk ((by rw [hg]; exact Nat.ne_of_gt (blk_lt (g := gb369) (o := .cells #[.int .u64 a1_0, .int .u64 a1_1] 24 (0, 0)) (by (with_reducible repeat (first | refine blk_drewN ?_ _ | refine blk_drew ?_ | refine blk_alloc ?_ _)); exact BK369.out)) : gb385 ≠ gb369)); have n13_ := Aside0.mk ((by rw [hg]; exact Nat.ne_of_lt (blk_lt (g := gb373) (o := .cells #[.int .u64 t371, .int .u64 t372] 24 (0, 0)) (by (with_reducible repeat (first | refine blk_drewN ?_ _ | refine blk_drew ?_ | refine blk_alloc ?_ _)); exact BK373.out)) : gb373 ≠ gb385)); have n14_ := Aside0.mk ((by rw [hg]; exact Nat.ne_of_gt (blk_lt (g := gb373) (o := .cells #[.int .u64 t371, .int .u64 t372] 24 (0, 0)) (by (with_reducible repeat (first | refine blk_drewN ?_ _ | refine blk_drew ?_ | refine blk_alloc ?_ _)); exact BK373.out)) : gb385 ≠ gb373)); have n15_ := Aside0.mk ((by rw [hg]; exact Nat.ne_of_lt (blk_lt (g := gb379) (o := .cells #[.int .u64 t377, .int .u64 t378] 24 (0, 0)) (by (with_reducible repeat (first | refine blk_drewN ?_ _ | refine blk_drew ?_ | refine blk_alloc ?_ _)); exact BK379.out)) : gb379 ≠ gb385)); have n16_ := Aside0.mk ((by rw [hg]; exact Nat.ne_of_gt (blk_lt (g := gb379) (o := .cells #[.int .u64 t377, .int .u64 t378] 24 (0, 0)) (by (with_reducible repeat (first | refine blk_drewN ?_ _ | refine blk_drew ?_ | refine blk_alloc ?_ _)); exact BK379.out)) : gb385 ≠ gb379)); have n17_ := Aside0.mk ((by rw [hg]; exact Nat.ne_of_lt (blk_lt (g := gb382) (o := .cells #[.int .u64 t380, .int .u64 t381] 24 (0, 0)) (by (with_reducible repeat (first | refine blk_drewN ?_ _ | refine blk_drew ?_ | refine blk_alloc ?_ _)); exact BK382.out)) : gb382 ≠ gb385)); have n18_ := Aside0.mk ((by rw [hg]; exact Nat.ne_of_gt (blk_lt (g := gb382) (o := .cells #[.int .u64 t380, .int .u64 t381] 24 (0, 0)) (by (with_reducible repeat (first | refine blk_drewN ?_ _ | refine blk_drew ?_ | refine blk_alloc ?_ _)); exact BK382.out)) : gb385 ≠ gb382)); clear BK368; clear BK369; clear BK373; clear BK379; clear BK382; clear HB; have BK368 := n0_; have BK369 := n1_; have BK373 := n2_; have BK379 := n3_; have BK382 := n4_; have HB := n5_; have BK385 := n6_; have GW385 := n7_; have GE385 := n8_; have NB368_385 := n9_; have NB385_368 := n10_; have NB369_385 := n11_; have NB385_369 := n12_; have NB373_385 := n13_; have NB385_373 := n14_; have NB379_385 := n15_; have NB385_379 := n16_; have NB382_385 := n17_; have NB385_382 := n18_; clear n0_ n1_ n2_ n3_ n4_ n5_ n6_ n7_ n8_ n9_ n10_ n11_ n12_ n13_ n14_ n15_ n16_ n17_ n18_; clear hb hbox hg; have hnb106 := NB385_368.out; have hnc106 := NB368_385.out; have hnb107 := NB385_369.out; have hnc107 := NB369_385.out; have hnb108 := NB385_373.out; have hnc108 := NB373_385.out; have hnb109 := NB385_379.out; have hnc109 := NB379_385.out; have hnb110 := NB385_382.out; have hnc110 := NB382_385.out; have hcz111_0 : w105.cell? ⟨gb385, 0, none⟩ = some (.int .u64 0) := (blk_cell BK385.out 0).trans rfl; have hcz111_1 : w105.cell? ⟨gb385, 1, none⟩ = some (.int .u64 0) := (blk_cell BK385.out 1).trans rfl; have hfz111_0 := blk_frozen BK385.out 0; have hfz111_1 := blk_frozen BK385.out 1))
                      have n0_ : Aside0 (((w105.setCell ⟨gb385, 0, none⟩ (.int .u64 t383)).setCell ⟨gb385, 1, none⟩ (.int .u64 t384)).heap[gb368]? = some (.cells #[.int .u64 a0_0, .int .u64 a0_1] 24 (0, 0))) := ⟨by (with_reducible repeat (first | refine blk_drewN ?_ _ | refine blk_drew ?_ | refine blk_alloc ?_ _)); refine blk_far ?_ NB368_385.out _; (with_reducible repeat (first | refine blk_drewN ?_ _ | refine blk_drew ?_ | refine blk_alloc ?_ _)); refine blk_far ?_ NB368_385.out _; (with_reducible repeat (first | refine blk_drewN ?_ _ | refine blk_drew ?_ | refine blk_alloc ?_ _)); exact BK368.out⟩
                      have n1_ : Aside0 (((w105.setCell ⟨gb385, 0, none⟩ (.int .u64 t383)).setCell ⟨gb385, 1, none⟩ (.int .u64 t384)).heap[gb369]? = some (.cells #[.int .u64 a1_0, .int .u64 a1_1] 24 (0, 0))) := ⟨by (with_reducible repeat (first | refine blk_drewN ?_ _ | refine blk_drew ?_ | refine blk_alloc ?_ _)); refine blk_far ?_ NB369_385.out _; (with_reducible repeat (first | refine blk_drewN ?_ _ | refine blk_drew ?_ | refine blk_alloc ?_ _)); refine blk_far ?_ NB369_385.out _; (with_reducible repeat (first | refine blk_drewN ?_ _ | refine blk_drew ?_ | refine blk_alloc ?_ _)); exact BK369.out⟩
                      have n2_ : Aside0 (((w105.setCell ⟨gb385, 0, none⟩ (.int .u64 t383)).setCell ⟨gb385, 1, none⟩ (.int .u64 t384)).heap[gb373]? = some (.cells #[.int .u64 t371, .int .u64 t372] 24 (0, 0))) := ⟨by (with_reducible repeat (first | refine blk_drewN ?_ _ | refine blk_drew ?_ | refine blk_alloc ?_ _)); refine blk_far ?_ NB373_385.out _; (with_reducible repeat (first | refine blk_drewN ?_ _ | refine blk_drew ?_ | refine blk_alloc ?_ _)); refine blk_far ?_ NB373_385.out _; (with_reducible repeat (first | refine blk_drewN ?_ _ | refine blk_drew ?_ | refine blk_alloc ?_ _)); exact BK373.out⟩
                      have n3_ : Aside0 (((w105.setCell ⟨gb385, 0, none⟩ (.int .u64 t383)).setCell ⟨gb385, 1, none⟩ (.int .u64 t384)).heap[gb379]? = some (.cells #[.int .u64 t377, .int .u64 t378] 24 (0, 0))) := ⟨by (with_reducible repeat (first | refine blk_drewN ?_ _ | refine blk_drew ?_ | refine blk_alloc ?_ _)); refine blk_far ?_ NB379_385.out _; (with_reducible repeat (first | refine blk_drewN ?_ _ | refine blk_drew ?_ | refine blk_alloc ?_ _)); refine blk_far ?_ NB379_385.out _; (with_reducible repeat (first | refine blk_drewN ?_ _ | refine blk_drew ?_ | refine blk_alloc ?_ _)); exact BK379.out⟩
                      have n4_ : Aside0 (((w105.setCell ⟨gb385, 0, none⟩ (.int .u64 t383)).setCell ⟨gb385, 1, none⟩ (.int .u64 t384)).heap[gb382]? = some (.cells #[.int .u64 t380, .int .u64 t381] 24 (0, 0))) := ⟨by (with_reducible repeat (first | refine blk_drewN ?_ _ | refine blk_drew ?_ | refine blk_alloc ?_ _)); refine blk_far ?_ NB382_385.out _; (with_reducible repeat (first | refine blk_drewN ?_ _ | refine blk_drew ?_ | refine blk_alloc ?_ _)); refine blk_far ?_ NB382_385.out _; (with_reducible repeat (first | refine blk_drewN ?_ _ | refine blk_drew ?_ | refine blk_alloc ?_ _)); exact BK382.out⟩
                      have n5_ : Aside0 (((w105.setCell ⟨gb385, 0, none⟩ (.int .u64 t383)).setCell ⟨gb385, 1, none⟩ (.int .u64 t384)).heap[gb385]? = some (.cells #[.int .u64 t383, .int .u64 t384] 24 (0, 0))) := ⟨by (with_reducible repeat (first | refine blk_drewN ?_ _ | refine blk_drew ?_ | refine blk_alloc ?_ _)); refine blk_put (cs := #[.int .u64 t383, .int .u64 0]) ?_ 1 _ rfl; (with_reducible repeat (first | refine blk_drewN ?_ _ | refine blk_drew ?_ | refine blk_alloc ?_ _)); refine blk_put (cs := #[.int .u64 0, .int .u64 0]) ?_ 0 _ rfl; (with_reducible repeat (first | refine blk_drewN ?_ _ | refine blk_drew ?_ | refine blk_alloc ?_ _)); exact BK385.out⟩
                      have n6_ : Aside0 (Below w.heap.size w ((w105.setCell ⟨gb385, 0, none⟩ (.int .u64 t383)).setCell ⟨gb385, 1, none⟩ (.int .u64 t384))) := ⟨by repeat (first | (with_reducible first | exact HB.out | apply below_alloc | apply pw_below_drewN | apply below_drew1 | refine below_set ?_ GE368.out | refine below_set ?_ GE369.out | refine below_set ?_ GE373.out | refine below_set ?_ GE379.out | refine below_set ?_ GE382.out | refine below_set ?_ GE385.out) | exact HB.out)⟩
                      (try clear BK368)
                      (try clear BK369)
                      (try clear BK373)
                      (try clear BK379)
                      (try clear BK382)
                      (try clear BK385)
                      (try clear HB)
                      generalize ((w105.setCell ⟨gb385, 0, none⟩ (.int .u64 t383)).setCell ⟨gb385, 1, none⟩ (.int .u64 t384)) = w112 at n0_ n1_ n2_ n3_ n4_ n5_ n6_ ⊢
                      have BK368 := n0_
                      have BK369 := n1_
                      have BK373 := n2_
                      have BK379 := n3_
                      have BK382 := n4_
                      have BK385 := n5_
                      have HB := n6_
                      clear n0_ n1_ n2_ n3_ n4_ n5_ n6_
                      have n0_ := Aside0.mk (blk_drew BK368.out)
                      have n1_ := Aside0.mk (blk_drew BK369.out)
                      have n2_ := Aside0.mk (blk_drew BK373.out)
                      have n3_ := Aside0.mk (blk_drew BK379.out)
                      have n4_ := Aside0.mk (blk_drew BK382.out)
                      have n5_ := Aside0.mk (blk_drew BK385.out)
                      have n6_ := Aside0.mk (below_drew1 HB.out)
                      clear BK368
                      clear BK369
                      clear BK373
                      clear BK379
                      clear BK382
                      clear BK385
                      clear HB
                      have BK368 := n0_
                      have BK369 := n1_
                      have BK373 := n2_
                      have BK379 := n3_
                      have BK382 := n4_
                      have BK385 := n5_
                      have HB := n6_
                      clear n0_ n1_ n2_ n3_ n4_ n5_ n6_
                      refine start_ (n := 24) (S := fun w' => w'.cell? ⟨gb373, 0, none⟩ = some (.int .u64 t371) ∧ w'.cell? ⟨gb373, 1, none⟩ = some (.int .u64 t372) ∧ w'.cell? ⟨gb379, 0, none⟩ = some (.int .u64 t377) ∧ w'.cell? ⟨gb379, 1, none⟩ = some (.int .u64 t378) ∧ w'.cell? ⟨gb382, 0, none⟩ = some (.int .u64 t380) ∧ w'.cell? ⟨gb382, 1, none⟩ = some (.int .u64 t381) ∧ w'.cell? ⟨gb368, 0, none⟩ = some (.int .u64 a0_0) ∧ w'.cell? ⟨gb368, 1, none⟩ = some (.int .u64 a0_1) ∧ w'.cell? ⟨gb385, 0, none⟩ = some (.int .u64 t383) ∧ w'.cell? ⟨gb385, 1, none⟩ = some (.int .u64 t384)) (ds := []) #[false, false, false, false, false, false, false, false, false, false, false, false, false, false, false, false, false, false, false, false, false, false, false, false] (by kernel_rfl) rfl rfl ⟨(blk_cell BK373.out 0).trans rfl, (blk_cell BK373.out 1).trans rfl, (blk_cell BK379.out 0).trans rfl, (blk_cell BK379.out 1).trans rfl, (blk_cell BK382.out 0).trans rfl, (blk_cell BK382.out 1).trans rfl, (blk_cell BK368.out 0).trans rfl, (blk_cell BK368.out 1).trans rfl, (blk_cell BK385.out 0).trans rfl, (blk_cell BK385.out 1).trans rfl⟩ (fun hHeld => ?_); refine with_tabW turnoutlaw01_ValueCarries.tab18 turnoutlaw01_ValueCarries.bits18 (fun HT_ HW_ => ?_)
                      generalize w112.drew = w113 at BK368 BK369 BK373 BK379 BK382 BK385 HB hHeld ⊢
                      refine pure_ (i := 0) (N := some 82) (v := ?_) (a' := ?_) #[true, false, false, false, false, false, false, false, false, false, false, false, false, false, false, false, false, false, false, false, false, false, false, false] rfl rfl (any_of HT_.out (by kernel_rfl)) (fun _ _ _ h => h) (Or.inl ⟨by rfl, ?_⟩) ?_ ?_
                      rotate_left
                      · intro w'
                        go_simp
                        with_reducible rfl
                      rotate_left
                      · simp only [Act.put, List.setIfInBounds_toArray, List.set_cons_zero, List.set_cons_succ, i64_w, i32_w]
                        rfl
                      refine pure_ (i := 1) (N := some 83) (v := ?_) (a' := ?_) #[true, true, false, false, false, false, false, false, false, false, false, false, false, false, false, false, false, false, false, false, false, false, false, false] rfl rfl (any_of HT_.out (by kernel_rfl)) (fun _ _ _ h => h) (Or.inl ⟨by rfl, ?_⟩) ?_ ?_
                      rotate_left
                      · intro w'
                        go_simp
                        with_reducible rfl
                      rotate_left
                      · simp only [Act.put, List.setIfInBounds_toArray, List.set_cons_zero, List.set_cons_succ, i64_w, i32_w]
                        rfl
                      refine pure_ (i := 3) (N := some 85) (v := ?_) (a' := ?_) #[true, true, false, true, false, false, false, false, false, false, false, false, false, false, false, false, false, false, false, false, false, false, false, false] rfl rfl (any_of HT_.out (by kernel_rfl)) (fun _ _ _ h => h) (Or.inl ⟨by rfl, ?_⟩) ?_ ?_
                      rotate_left
                      · intro w'
                        go_simp
                        with_reducible rfl
                      rotate_left
                      · simp only [Act.put, List.setIfInBounds_toArray, List.set_cons_zero, List.set_cons_succ, i64_w, i32_w]
                        rfl
                      refine take_ (i := 2) (N := some 84) (v := ?_) (a' := ?_) #[true, true, true, true, false, false, false, false, false, false, false, false, false, false, false, false, false, false, false, false, false, false, false, false] rfl rfl (take_ofW HT_.out HW_.out (by kernel_rfl)) (fun _ _ _ h => h) (Or.inl ⟨by rfl, ?_⟩) hHeld ?_ ?_
                      rotate_left
                      · rintro w' ⟨s0, s1, s2, s3, s4, s5, s6, s7, s8, s9⟩
                        go_simp
                        with_reducible rfl
                      rotate_left
                      · simp only [Act.put, List.setIfInBounds_toArray, List.set_cons_zero, List.set_cons_succ, i64_w, i32_w]
                        rfl
                      refine one_ (i := 4) (N := some 86) #[true, true, true, true, true, false, false, false, false, false, false, false, false, false, false, false, false, false, false, false, false, false, false, false] rfl rfl (one_of HT_.out (by kernel_rfl)) (by decide) (fun K hK => ?_)
                      refine goes_ Tryd.func19 (by kernel_rfl) rfl #[.agg #[.int .u64 t371, .int .u64 t372], .int .i64 a2] (by rfl) rfl rfl (by (try simp only [List.map_toArray, List.map_cons, List.map_nil]); first | done | rfl | (simp only [List.length_drop, List.length_take]; rfl)) ?_
                      with_reducible refine (value_Fits.calls t371 t372 a2 true _ A78.out).mono ?_
                      rintro e w114 ⟨rfl, hb⟩
                      refine ⟨_, rfl, ?_⟩
                      have n0_ := Aside0.mk (blk_below (g := gb368) (o := .cells #[.int .u64 a0_0, .int .u64 a0_1] 24 (0, 0)) (by (with_reducible repeat (first | refine blk_drewN ?_ _ | refine blk_drew ?_ | refine blk_alloc ?_ _)); exact BK368.out) hb)
                      have n1_ := Aside0.mk (blk_below (g := gb369) (o := .cells #[.int .u64 a1_0, .int .u64 a1_1] 24 (0, 0)) (by (with_reducible repeat (first | refine blk_drewN ?_ _ | refine blk_drew ?_ | refine blk_alloc ?_ _)); exact BK369.out) hb)
                      have n2_ := Aside0.mk (blk_below (g := gb373) (o := .cells #[.int .u64 t371, .int .u64 t372] 24 (0, 0)) (by (with_reducible repeat (first | refine blk_drewN ?_ _ | refine blk_drew ?_ | refine blk_alloc ?_ _)); exact BK373.out) hb)
                      have n3_ := Aside0.mk (blk_below (g := gb379) (o := .cells #[.int .u64 t377, .int .u64 t378] 24 (0, 0)) (by (with_reducible repeat (first | refine blk_drewN ?_ _ | refine blk_drew ?_ | refine blk_alloc ?_ _)); exact BK379.out) hb)
                      have n4_ := Aside0.mk (blk_below (g := gb382) (o := .cells #[.int .u64 t380, .int .u64 t381] 24 (0, 0)) (by (with_reducible repeat (first | refine blk_drewN ?_ _ | refine blk_drew ?_ | refine blk_alloc ?_ _)); exact BK382.out) hb)
                      have n5_ := Aside0.mk (blk_below (g := gb385) (o := .cells #[.int .u64 t383, .int .u64 t384] 24 (0, 0)) (by (with_reducible repeat (first | refine blk_drewN ?_ _ | refine blk_drew ?_ | refine blk_alloc ?_ _)); exact BK385.out) hb)
                      have n6_ := Aside0.mk (below_step (by repeat (first | (with_reducible first | exact HB.out | apply below_alloc | apply pw_below_drewN | apply below_drew1 | refine below_set ?_ GE368.out | refine below_set ?_ GE369.out | refine below_set ?_ GE373.out | refine below_set ?_ GE379.out | refine below_set ?_ GE382.out | refine below_set ?_ GE385.out) | exact HB.out)) hb)
                      clear BK368
                      clear BK369
                      clear BK373
                      clear BK379
                      clear BK382
                      clear BK385
                      clear HB
                      have BK368 := n0_
                      have BK369 := n1_
                      have BK373 := n2_
                      have BK379 := n3_
                      have BK382 := n4_
                      have BK385 := n5_
                      have HB := n6_
                      clear n0_ n1_ n2_ n3_ n4_ n5_ n6_
                      (try clear hb)
                      (try clear hb2)
                      (try clear hk)
                      (try clear hi)
                      refine hK.out _ _ ⟨(blk_cell BK373.out 0).trans rfl, (blk_cell BK373.out 1).trans rfl, (blk_cell BK379.out 0).trans rfl, (blk_cell BK379.out 1).trans rfl, (blk_cell BK382.out 0).trans rfl, (blk_cell BK382.out 1).trans rfl, (blk_cell BK368.out 0).trans rfl, (blk_cell BK368.out 1).trans rfl, (blk_cell BK385.out 0).trans rfl, (blk_cell BK385.out 1).trans rfl⟩ (fun hHeld => ?_)
                      clear hK K
                      refine norm_ (a' := ?_) ?_ ?_
                      rotate_left
                      · show Act.put _ (some 86) _ = _
                        simp only [Act.put, List.setIfInBounds_toArray, List.set_cons_zero, List.set_cons_succ, i64_w, i32_w]
                        rfl
                      refine pure_ (i := 5) (N := some 87) (v := ?_) (a' := ?_) #[true, true, true, true, true, true, false, false, false, false, false, false, false, false, false, false, false, false, false, false, false, false, false, false] rfl rfl (any_of HT_.out (by kernel_rfl)) (fun _ _ _ h => h) (Or.inl ⟨by rfl, ?_⟩) ?_ ?_
                      rotate_left
                      · intro w'
                        go_simp
                        with_reducible rfl
                      rotate_left
                      · simp only [Act.put, List.setIfInBounds_toArray, List.set_cons_zero, List.set_cons_succ, i64_w, i32_w]
                        rfl
                      refine pure_ (i := 6) (N := some 88) (v := ?_) (a' := ?_) #[true, true, true, true, true, true, true, false, false, false, false, false, false, false, false, false, false, false, false, false, false, false, false, false] rfl rfl (any_of HT_.out (by kernel_rfl)) (fun _ _ _ h => h) (Or.inl ⟨by rfl, ?_⟩) ?_ ?_
                      rotate_left
                      · intro w'
                        go_simp
                        with_reducible rfl
                      rotate_left
                      · simp only [Act.put, List.setIfInBounds_toArray, List.set_cons_zero, List.set_cons_succ, i64_w, i32_w]
                        rfl
                      refine pure_ (i := 8) (N := some 90) (v := ?_) (a' := ?_) #[true, true, true, true, true, true, true, false, true, false, false, false, false, false, false, false, false, false, false, false, false, false, false, false] rfl rfl (any_of HT_.out (by kernel_rfl)) (fun _ _ _ h => h) (Or.inl ⟨by rfl, ?_⟩) ?_ ?_
                      rotate_left
                      · intro w'
                        go_simp
                        with_reducible rfl
                      rotate_left
                      · simp only [Act.put, List.setIfInBounds_toArray, List.set_cons_zero, List.set_cons_succ, i64_w, i32_w]
                        rfl
                      refine take_ (i := 7) (N := some 89) (v := ?_) (a' := ?_) #[true, true, true, true, true, true, true, true, true, false, false, false, false, false, false, false, false, false, false, false, false, false, false, false] rfl rfl (take_ofW HT_.out HW_.out (by kernel_rfl)) (fun _ _ _ h => h) (Or.inl ⟨by rfl, ?_⟩) hHeld ?_ ?_
                      rotate_left
                      · rintro w' ⟨s0, s1, s2, s3, s4, s5, s6, s7, s8, s9⟩
                        go_simp
                        with_reducible rfl
                      rotate_left
                      · simp only [Act.put, List.setIfInBounds_toArray, List.set_cons_zero, List.set_cons_succ, i64_w, i32_w]
                        rfl
                      refine one_ (i := 9) (N := some 91) #[true, true, true, true, true, true, true, true, true, true, false, false, false, false, false, false, false, false, false, false, false, false, false, false] rfl rfl (one_of HT_.out (by kernel_rfl)) (by decide) (fun K hK => ?_)
                      refine goes_ Tryd.func19 (by kernel_rfl) rfl #[.agg #[.int .u64 t377, .int .u64 t378], .int .i64 a2] (by rfl) rfl rfl (by (try simp only [List.map_toArray, List.map_cons, List.map_nil]); first | done | rfl | (simp only [List.length_drop, List.length_take]; rfl)) ?_
                      with_reducible refine (value_Fits.calls t377 t378 a2 true _ A80.out).mono ?_
                      rintro e w115 ⟨rfl, hb⟩
                      refine ⟨_, rfl, ?_⟩
                      have n0_ := Aside0.mk (blk_below (g := gb368) (o := .cells #[.int .u64 a0_0, .int .u64 a0_1] 24 (0, 0)) (by (with_reducible repeat (first | refine blk_drewN ?_ _ | refine blk_drew ?_ | refine blk_alloc ?_ _)); exact BK368.out) hb)
                      have n1_ := Aside0.mk (blk_below (g := gb369) (o := .cells #[.int .u64 a1_0, .int .u64 a1_1] 24 (0, 0)) (by (with_reducible repeat (first | refine blk_drewN ?_ _ | refine blk_drew ?_ | refine blk_alloc ?_ _)); exact BK369.out) hb)
                      have n2_ := Aside0.mk (blk_below (g := gb373) (o := .cells #[.int .u64 t371, .int .u64 t372] 24 (0, 0)) (by (with_reducible repeat (first | refine blk_drewN ?_ _ | refine blk_drew ?_ | refine blk_alloc ?_ _)); exact BK373.out) hb)
                      have n3_ := Aside0.mk (blk_below (g := gb379) (o := .cells #[.int .u64 t377, .int .u64 t378] 24 (0, 0)) (by (with_reducible repeat (first | refine blk_drewN ?_ _ | refine blk_drew ?_ | refine blk_alloc ?_ _)); exact BK379.out) hb)
                      have n4_ := Aside0.mk (blk_below (g := gb382) (o := .cells #[.int .u64 t380, .int .u64 t381] 24 (0, 0)) (by (with_reducible repeat (first | refine blk_drewN ?_ _ | refine blk_drew ?_ | refine blk_alloc ?_ _)); exact BK382.out) hb)
                      have n5_ := Aside0.mk (blk_below (g := gb385) (o := .cells #[.int .u64 t383, .int .u64 t384] 24 (0, 0)) (by (with_reducible repeat (first | refine blk_drewN ?_ _ | refine blk_drew ?_ | refine blk_alloc ?_ _)); exact BK385.out) hb)
                      have n6_ := Aside0.mk (below_step (by repeat (first | (with_reducible first | exact HB.out | apply below_alloc | apply pw_below_drewN | apply below_drew1 | refine below_set ?_ GE368.out | refine below_set ?_ GE369.out | refine below_set ?_ GE373.out | refine below_set ?_ GE379.out | refine below_set ?_ GE382.out | refine below_set ?_ GE385.out) | exact HB.out)) hb)
                      clear BK368
                      clear BK369
                      clear BK373
                      clear BK379
                      clear BK382
                      clear BK385
                      clear HB
                      have BK368 := n0_
                      have BK369 := n1_
                      have BK373 := n2_
                      have BK379 := n3_
                      have BK382 := n4_
                      have BK385 := n5_
                      have HB := n6_
                      clear n0_ n1_ n2_ n3_ n4_ n5_ n6_
                      (try clear hb)
                      (try clear hb2)
                      (try clear hk)
                      (try clear hi)
                      refine hK.out _ _ ⟨(blk_cell BK373.out 0).trans rfl, (blk_cell BK373.out 1).trans rfl, (blk_cell BK379.out 0).trans rfl, (blk_cell BK379.out 1).trans rfl, (blk_cell BK382.out 0).trans rfl, (blk_cell BK382.out 1).trans rfl, (blk_cell BK368.out 0).trans rfl, (blk_cell BK368.out 1).trans rfl, (blk_cell BK385.out 0).trans rfl, (blk_cell BK385.out 1).trans rfl⟩ (fun hHeld => ?_)
                      clear hK K
                      refine norm_ (a' := ?_) ?_ ?_
                      rotate_left
                      · show Act.put _ (some 91) _ = _
                        simp only [Act.put, List.setIfInBounds_toArray, List.set_cons_zero, List.set_cons_succ, i64_w, i32_w]
                        rfl
                      refine pure_ (i := 10) (N := some 92) (v := ?_) (a' := ?_) #[true, true, true, true, true, true, true, true, true, true, true, false, false, false, false, false, false, false, false, false, false, false, false, false] rfl rfl (any_of HT_.out (by kernel_rfl)) (fun _ _ _ h => h) (Or.inl ⟨by rfl, ?_⟩) ?_ ?_
                      rotate_left
                      · intro w'
                        go_simp
                        with_reducible rfl
                      rotate_left
                      · simp only [Act.put, List.setIfInBounds_toArray, List.set_cons_zero, List.set_cons_succ, i64_w, i32_w]
                        rfl
                      refine pure_ (i := 11) (N := some 93) (v := ?_) (a' := ?_) #[true, true, true, true, true, true, true, true, true, true, true, true, false, false, false, false, false, false, false, false, false, false, false, false] rfl rfl (any_of HT_.out (by kernel_rfl)) (fun _ _ _ h => h) (Or.inl ⟨by rfl, ?_⟩) ?_ ?_
                      rotate_left
                      · intro w'
                        go_simp
                        with_reducible rfl
                      rotate_left
                      · simp only [Act.put, List.setIfInBounds_toArray, List.set_cons_zero, List.set_cons_succ, i64_w, i32_w]
                        rfl
                      refine pure_ (i := 14) (N := some 96) (v := ?_) (a' := ?_) #[true, true, true, true, true, true, true, true, true, true, true, true, false, false, true, false, false, false, false, false, false, false, false, false] rfl rfl (any_of HT_.out (by kernel_rfl)) (fun _ _ _ h => h) (Or.inl ⟨by rfl, ?_⟩) ?_ ?_
                      rotate_left
                      · intro w'
                        go_simp
                        with_reducible rfl
                      rotate_left
                      · simp only [Act.put, List.setIfInBounds_toArray, List.set_cons_zero, List.set_cons_succ, i64_w, i32_w]
                        rfl
                      refine take_ (i := 12) (N := some 94) (v := ?_) (a' := ?_) #[true, true, true, true, true, true, true, true, true, true, true, true, true, false, true, false, false, false, false, false, false, false, false, false] rfl rfl (take_ofW HT_.out HW_.out (by kernel_rfl)) (fun _ _ _ h => h) (Or.inl ⟨by rfl, ?_⟩) hHeld ?_ ?_
                      rotate_left
                      · rintro w' ⟨s0, s1, s2, s3, s4, s5, s6, s7, s8, s9⟩
                        go_simp
                        with_reducible rfl
                      rotate_left
                      · simp only [Act.put, List.setIfInBounds_toArray, List.set_cons_zero, List.set_cons_succ, i64_w, i32_w]
                        rfl
                      refine take_ (i := 13) (N := some 95) (v := ?_) (a' := ?_) #[true, true, true, true, true, true, true, true, true, true, true, true, true, true, true, false, false, false, false, false, false, false, false, false] rfl rfl (take_ofW HT_.out HW_.out (by kernel_rfl)) (fun _ _ _ h => h) (Or.inl ⟨by rfl, ?_⟩) hHeld ?_ ?_
                      rotate_left
                      · rintro w' ⟨s0, s1, s2, s3, s4, s5, s6, s7, s8, s9⟩
                        go_simp
                        with_reducible rfl
                      rotate_left
                      · simp only [Act.put, List.setIfInBounds_toArray, List.set_cons_zero, List.set_cons_succ, i64_w, i32_w]
                        rfl
                      refine one_ (i := 15) (N := some 97) #[true, true, true, true, true, true, true, true, true, true, true, true, true, true, true, true, false, false, false, false, false, false, false, false] rfl rfl (one_of HT_.out (by kernel_rfl)) (by decide) (fun K hK => ?_)
                      refine goes_ Tryd.func13 (by kernel_rfl) rfl #[.agg #[.int .u64 a0_0, .int .u64 a0_1], .int .i64 a2] (by rfl) rfl rfl (by (try simp only [List.map_toArray, List.map_cons, List.map_nil]); first | done | rfl | (simp only [List.length_drop, List.length_take]; rfl)) ?_
                      with_reducible refine (value_Cut.calls a0_0 a0_1 a2 t388 t389 _ A82.out).mono ?_
                      rintro e w116 ⟨rfl, hb⟩
                      refine ⟨_, rfl, ?_⟩
                      have n0_ := Aside0.mk (blk_below (g := gb368) (o := .cells #[.int .u64 a0_0, .int .u64 a0_1] 24 (0, 0)) (by (with_reducible repeat (first | refine blk_drewN ?_ _ | refine blk_drew ?_ | refine blk_alloc ?_ _)); exact BK368.out) hb)
                      have n1_ := Aside0.mk (blk_below (g := gb369) (o := .cells #[.int .u64 a1_0, .int .u64 a1_1] 24 (0, 0)) (by (with_reducible repeat (first | refine blk_drewN ?_ _ | refine blk_drew ?_ | refine blk_alloc ?_ _)); exact BK369.out) hb)
                      have n2_ := Aside0.mk (blk_below (g := gb373) (o := .cells #[.int .u64 t371, .int .u64 t372] 24 (0, 0)) (by (with_reducible repeat (first | refine blk_drewN ?_ _ | refine blk_drew ?_ | refine blk_alloc ?_ _)); exact BK373.out) hb)
                      have n3_ := Aside0.mk (blk_below (g := gb379) (o := .cells #[.int .u64 t377, .int .u64 t378] 24 (0, 0)) (by (with_reducible repeat (first | refine blk_drewN ?_ _ | refine blk_drew ?_ | refine blk_alloc ?_ _)); exact BK379.out) hb)
                      have n4_ := Aside0.mk (blk_below (g := gb382) (o := .cells #[.int .u64 t380, .int .u64 t381] 24 (0, 0)) (by (with_reducible repeat (first | refine blk_drewN ?_ _ | refine blk_drew ?_ | refine blk_alloc ?_ _)); exact BK382.out) hb)
                      have n5_ := Aside0.mk (blk_below (g := gb385) (o := .cells #[.int .u64 t383, .int .u64 t384] 24 (0, 0)) (by (with_reducible repeat (first | refine blk_drewN ?_ _ | refine blk_drew ?_ | refine blk_alloc ?_ _)); exact BK385.out) hb)
                      have n6_ := Aside0.mk (below_step (by repeat (first | (with_reducible first | exact HB.out | apply below_alloc | apply pw_below_drewN | apply below_drew1 | refine below_set ?_ GE368.out | refine below_set ?_ GE369.out | refine below_set ?_ GE373.out | refine below_set ?_ GE379.out | refine below_set ?_ GE382.out | refine below_set ?_ GE385.out) | exact HB.out)) hb)
                      clear BK368
                      clear BK369
                      clear BK373
                      clear BK379
                      clear BK382
                      clear BK385
                      clear HB
                      have BK368 := n0_
                      have BK369 := n1_
                      have BK373 := n2_
                      have BK379 := n3_
                      have BK382 := n4_
                      have BK385 := n5_
                      have HB := n6_
                      clear n0_ n1_ n2_ n3_ n4_ n5_ n6_
                      (try clear hb)
                      (try clear hb2)
                      (try clear hk)
                      (try clear hi)
                      refine hK.out _ _ ⟨(blk_cell BK373.out 0).trans rfl, (blk_cell BK373.out 1).trans rfl, (blk_cell BK379.out 0).trans rfl, (blk_cell BK379.out 1).trans rfl, (blk_cell BK382.out 0).trans rfl, (blk_cell BK382.out 1).trans rfl, (blk_cell BK368.out 0).trans rfl, (blk_cell BK368.out 1).trans rfl, (blk_cell BK385.out 0).trans rfl, (blk_cell BK385.out 1).trans rfl⟩ (fun hHeld => ?_)
                      clear hK K
                      refine norm_ (a' := ?_) ?_ ?_
                      rotate_left
                      · show Act.put _ (some 97) _ = _
                        simp only [Act.put, List.setIfInBounds_toArray, List.set_cons_zero, List.set_cons_succ, i64_w, i32_w]
                        rfl
                      refine pure_ (i := 16) (N := some 98) (v := ?_) (a' := ?_) #[true, true, true, true, true, true, true, true, true, true, true, true, true, true, true, true, true, false, false, false, false, false, false, false] rfl rfl (any_of HT_.out (by kernel_rfl)) (fun _ _ _ h => h) (Or.inl ⟨by rfl, ?_⟩) ?_ ?_
                      rotate_left
                      · intro w'
                        go_simp
                        with_reducible rfl
                      rotate_left
                      · simp only [Act.put, List.setIfInBounds_toArray, List.set_cons_zero, List.set_cons_succ, i64_w, i32_w]
                        rfl
                      refine pure_ (i := 17) (N := some 99) (v := ?_) (a' := ?_) #[true, true, true, true, true, true, true, true, true, true, true, true, true, true, true, true, true, true, false, false, false, false, false, false] rfl rfl (any_of HT_.out (by kernel_rfl)) (fun _ _ _ h => h) (Or.inl ⟨by rfl, ?_⟩) ?_ ?_
                      rotate_left
                      · intro w'
                        go_simp
                        with_reducible rfl
                      rotate_left
                      · simp only [Act.put, List.setIfInBounds_toArray, List.set_cons_zero, List.set_cons_succ, i64_w, i32_w]
                        rfl
                      refine pure_ (i := 18) (N := some 100) (v := ?_) (a' := ?_) #[true, true, true, true, true, true, true, true, true, true, true, true, true, true, true, true, true, true, true, false, false, false, false, false] rfl rfl (any_of HT_.out (by kernel_rfl)) (fun _ _ _ h => h) (Or.inl ⟨by rfl, ?_⟩) ?_ ?_
                      rotate_left
                      · intro w'
                        go_simp
                        with_reducible rfl
                      rotate_left
                      · simp only [Act.put, List.setIfInBounds_toArray, List.set_cons_zero, List.set_cons_succ, i64_w, i32_w]
                        rfl
                      refine pure_ (i := 20) (N := some 102) (v := ?_) (a' := ?_) #[true, true, true, true, true, true, true, true, true, true, true, true, true, true, true, true, true, true, true, false, true, false, false, false] rfl rfl (any_of HT_.out (by kernel_rfl)) (fun _ _ _ h => h) (Or.inl ⟨by rfl, ?_⟩) ?_ ?_
                      rotate_left
                      · intro w'
                        go_simp
                        with_reducible rfl
                      rotate_left
                      · simp only [Act.put, List.setIfInBounds_toArray, List.set_cons_zero, List.set_cons_succ, i64_w, i32_w]
                        rfl
                      refine take_ (i := 19) (N := some 101) (v := ?_) (a' := ?_) #[true, true, true, true, true, true, true, true, true, true, true, true, true, true, true, true, true, true, true, true, true, false, false, false] rfl rfl (take_ofW HT_.out HW_.out (by kernel_rfl)) (fun _ _ _ h => h) (Or.inl ⟨by rfl, ?_⟩) hHeld ?_ ?_
                      rotate_left
                      · rintro w' ⟨s0, s1, s2, s3, s4, s5, s6, s7, s8, s9⟩
                        go_simp
                        with_reducible rfl
                      rotate_left
                      · simp only [Act.put, List.setIfInBounds_toArray, List.set_cons_zero, List.set_cons_succ, i64_w, i32_w]
                        rfl
                      refine pure_ (i := 21) (N := some 103) (v := ?_) (a' := ?_) #[true, true, true, true, true, true, true, true, true, true, true, true, true, true, true, true, true, true, true, true, true, true, false, false] rfl rfl (any_of HT_.out (by kernel_rfl)) (fun _ _ _ h => h) (Or.inl ⟨by rfl, ?_⟩) ?_ ?_
                      rotate_left
                      · intro w'
                        go_simp
                        with_reducible rfl
                      rotate_left
                      · simp only [Act.put, List.setIfInBounds_toArray, List.set_cons_zero, List.set_cons_succ, i64_w, i32_w]
                        rfl
                      refine pure_ (i := 22) (N := some 104) (v := ?_) (a' := ?_) #[true, true, true, true, true, true, true, true, true, true, true, true, true, true, true, true, true, true, true, true, true, true, true, false] rfl rfl (any_of HT_.out (by kernel_rfl)) (fun _ _ _ h => h) (Or.inl ⟨by rfl, ?_⟩) ?_ ?_
                      rotate_left
                      · intro w'
                        go_simp
                        with_reducible rfl
                      rotate_left
                      · simp only [Act.put, List.setIfInBounds_toArray, List.set_cons_zero, List.set_cons_succ, i64_w, i32_w]
                        rfl
                      refine pure_ (i := 23) (N := some 6) (v := ?_) (a' := ?_) #[true, true, true, true, true, true, true, true, true, true, true, true, true, true, true, true, true, true, true, true, true, true, true, true] rfl rfl (any_of HT_.out (by kernel_rfl)) (fun _ _ _ h => h) (Or.inl ⟨by rfl, ?_⟩) ?_ ?_
                      rotate_left
                      · intro w'
                        go_simp
                        with_reducible rfl
                      rotate_left
                      · simp only [Act.put, List.setIfInBounds_toArray, List.set_cons_zero, List.set_cons_succ, i64_w, i32_w]
                        rfl
                      refine done_ (done_of HT_.out (by kernel_rfl)) ?_
                      try go_wp2
                      go_ret
                      exact ⟨by first | rfl | (simp [errW_none, errW_some] <;> rfl) | (simp [*, errW_none, errW_some] <;> rfl), by repeat (first | (with_reducible first | exact HB.out | apply below_alloc | apply pw_below_drewN | apply below_drew1 | refine below_set ?_ GE368.out | refine below_set ?_ GE369.out | refine below_set ?_ GE373.out | refine below_set ?_ GE379.out | refine below_set ?_ GE382.out | refine below_set ?_ GE385.out) | exact HB.out)⟩
                    · rw [if_neg c83] at H
                      have c83b0 : (t380 == t388 && (t381 == t389)) = false := by simpa using c83
                      (try (have c83b1 : decide (t380 = t388 && (t381 == t389)) = false := by simpa using c83))
                      (try (have c83b2 : (t380 == t388 && (t381 == t389)) = false := by simpa using c83))
                      (try (have c83b3 : ¬ (t380 = t388 && (t381 == t389)) := by simpa using c83))
                      clear c83
                      exact absurd ((Option.some.inj H).trans hrt.out) (by decide)
                  · replace c81 := Bool.eq_false_iff.mpr c81
                    subst c81
                    have H1 : (some false) = some r := by rw [if_neg (show ¬ (false = true) by decide)] at H; exact H
                    clear H
                    have H := H1
                    clear H1
                    exact absurd ((Option.some.inj H).trans hrt.out) (by decide)
                · replace c79 := Bool.eq_false_iff.mpr c79
                  subst c79
                  have H1 : (some false) = some r := by rw [if_neg (show ¬ (false = true) by decide)] at H; exact H
                  clear H
                  have H := H1
                  clear H1
                  exact absurd ((Option.some.inj H).trans hrt.out) (by decide)
              · replace c77 := Bool.eq_false_iff.mpr c77
                subst c77
                have H1 : (some false) = some r := by rw [if_neg (show ¬ (false = true) by decide)] at H; exact H
                clear H
                have H := H1
                clear H1
                exact absurd ((Option.some.inj H).trans hrt.out) (by decide)

end Go.Proofs.YtofnhgpiipmegaaDoor.PV
