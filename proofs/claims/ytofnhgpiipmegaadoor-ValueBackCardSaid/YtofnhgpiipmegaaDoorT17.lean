/- ### turnoutlaw01_ValueBack: function 4 -/
import Derived.Test.YtofnhgpiipmegaaDoorPVx0
import Derived.Test.YtofnhgpiipmegaaDoorPVx1
import Derived.Test.YtofnhgpiipmegaaDoorPVx2
import Derived.Test.YtofnhgpiipmegaaDoorPVx4
import Derived.Test.YtofnhgpiipmegaaDoorHText
import Derived.Test.YtofnhgpiipmegaaDoorPVx15
import Derived.Test.YtofnhgpiipmegaaDoorT16
-- Printed by this session's gprint.py (the kit's printer, with functions given by hand). Not trusted: Lean checks it.
namespace Go.Proofs.YtofnhgpiipmegaaDoor.PV
open Go.RowKit Go.Proofs.YtofnhgpiipmegaaDoorW.PrintWords Go.Proofs.YtofnhgpiipmegaaDoorW.PrintLast Go.Proofs.YtofnhgpiipmegaaDoorW.PrintMore
attribute [local go_sem] max2_int min2_int max_two min_two max_three min_three max_four min_four   -- for this text's walks alone
set_option linter.unusedVariables false
set_option linter.unusedSimpArgs false
attribute [local go_sem high] eqA24
mutual
def turnoutlaw01_ValueBack.j0 : Nat → Int → ByteArray → Bool → Bool → Int → Int → Option (Bool)
 | 0, _, _, _, _, _, _ => none
 | k + 1, x1, x2, x7, x30, x340000, x340001 => if x30 = true then (some x7) else ((value_Cut.f x340000 x340001 x1).bind fun bt341 => ((value_Bytes.f k bt341.1 bt341.2 x1).bind fun bt344 => ((value_From.f k bt344.1 x1).bind fun bt346 => (if bt344.2 = 0 then (if bt346.2.2 = 0 then (if (!(bt346.1 == bt341.1) || (!(bt346.2.1 == bt341.2))) = true then (turnoutlaw01_ValueBack.j1 k x1 x2 x7 true bt341.1 bt341.2) else (turnoutlaw01_ValueBack.j1 k x1 x2 x7 ((bt344.1.size : Int) != (wrap64 (Int.tdiv (wrap64 (x1 + 7)) 8))) bt341.1 bt341.2)) else (turnoutlaw01_ValueBack.j1 k x1 x2 x7 true bt341.1 bt341.2)) else (turnoutlaw01_ValueBack.j1 k x1 x2 x7 true bt341.1 bt341.2)))))
def turnoutlaw01_ValueBack.j1 : Nat → Int → ByteArray → Bool → Bool → Int → Int → Option (Bool)
 | 0, _, _, _, _, _, _ => none
 | k + 1, x1, x2, x7, x65, x344000, x344001 => if x65 = true then (some false) else ((value_Parse.f k x2 x1).bind fun bt350 => (turnoutlaw01_ValueBack.l0 k x1 x2 x7 (bt350.2.2 != 0) 1 x344000 x344001 bt350.1 bt350.2.1))
def turnoutlaw01_ValueBack.l0 : Nat → Int → ByteArray → Bool → Bool → Int → Int → Int → Int → Int → Option (Bool)
 | 0, _, _, _, _, _, _, _, _, _ => none
 | k + 1, x1, x2, x7, x15, x16, x344000, x344001, x354000, x354001 => if x16 ≤ 5 then ((value_Text.f k x344000 x344001 x1 x16).bind fun bt354 => (if x16 ≤ 3 then (turnoutlaw01_ValueBack.j3 k x1 x2 x7 x15 x16 bt354.1 bt354.2 true x344000 x344001 x354000 x354001) else (if x16 = 4 then (if x1 = 32 then (turnoutlaw01_ValueBack.j3 k x1 x2 x7 x15 x16 bt354.1 bt354.2 true x344000 x344001 x354000 x354001) else (if x16 = 5 then (if (Int.tmod x1 8) = 0 then (turnoutlaw01_ValueBack.j3 k x1 x2 x7 x15 x16 bt354.1 bt354.2 (decide (x1 > 8)) x344000 x344001 x354000 x354001) else (turnoutlaw01_ValueBack.j3 k x1 x2 x7 x15 x16 bt354.1 bt354.2 false x344000 x344001 x354000 x354001)) else (turnoutlaw01_ValueBack.j3 k x1 x2 x7 x15 x16 bt354.1 bt354.2 false x344000 x344001 x354000 x354001))) else (if x16 = 5 then (if (Int.tmod x1 8) = 0 then (turnoutlaw01_ValueBack.j3 k x1 x2 x7 x15 x16 bt354.1 bt354.2 (decide (x1 > 8)) x344000 x344001 x354000 x354001) else (turnoutlaw01_ValueBack.j3 k x1 x2 x7 x15 x16 bt354.1 bt354.2 false x344000 x344001 x354000 x354001)) else (turnoutlaw01_ValueBack.j3 k x1 x2 x7 x15 x16 bt354.1 bt354.2 false x344000 x344001 x354000 x354001))))) else (if x7 = true then (some x15) else (some false))
def turnoutlaw01_ValueBack.j3 : Nat → Int → ByteArray → Bool → Bool → Int → ByteArray → Int → Bool → Int → Int → Int → Int → Option (Bool)
 | 0, _, _, _, _, _, _, _, _, _, _, _, _ => none
 | k + 1, x1, x2, x7, x15, x16, x17, x18, x19, x344000, x344001, x354000, x354001 => if (x19 != (x18 == 0)) = true then (some false) else (if x19 = true then ((value_Parse.f k x17 x1).bind fun bt356 => (if (!(bt356.1 == x344000) || (!(bt356.2.1 == x344001))) = true then (some false) else (if bt356.2.2 = 0 then ((value_Text.f k x354000 x354001 x1 x16).bind fun bt360 => (if x15 = true then (turnoutlaw01_ValueBack.l0 k x1 x2 x7 true (wrap64 (x16 + 1)) x344000 x344001 x354000 x354001) else (turnoutlaw01_ValueBack.l0 k x1 x2 x7 (bt360.1.toList == x2.toList) (wrap64 (x16 + 1)) x344000 x344001 x354000 x354001))) else (some false)))) else ((value_Text.f k x354000 x354001 x1 x16).bind fun bt362 => (if x15 = true then (turnoutlaw01_ValueBack.l0 k x1 x2 x7 true (wrap64 (x16 + 1)) x344000 x344001 x354000 x354001) else (turnoutlaw01_ValueBack.l0 k x1 x2 x7 (bt362.1.toList == x2.toList) (wrap64 (x16 + 1)) x344000 x344001 x354000 x354001))))
end
def turnoutlaw01_ValueBack.f (k : Nat) (a0_0 : Int) (a0_1 : Int) (a1 : Int) (a2 : ByteArray) : Option (Bool) := (turnoutlaw01_awake.f k).bind fun t340 => (if a1 < 1 then (turnoutlaw01_ValueBack.j0 k a1 a2 t340 true a0_0 a0_1) else (turnoutlaw01_ValueBack.j0 k a1 a2 t340 (decide (a1 > 128)) a0_0 a0_1))
set_option maxHeartbeats 8000000 in
set_option maxRecDepth 100000 in
theorem turnoutlaw01_ValueBack.calls (k : Nat) (a0_0 : Int) (a0_1 : Int) (a1 : Int) (a2 : ByteArray) (r : Bool) (w : World) (hG : GlobalsAt w) (h : turnoutlaw01_ValueBack.f k a0_0 a0_1 a1 a2 = some r) (hrt : Aside0 (r = true)) :
  Calls Tryd.prog 4 #[.agg #[.int .u64 a0_0, .int .u64 a0_1], .int .i64 a1, .string a2] w fun e w' => e = .returned (.bool r) ∧ Below w.heap.size w w' := by
 have HG := Aside0.mk hG
 clear hG
 have hu24 := Tryd.underlying24
 have HB := Aside0.mk (Below.refl w.heap.size w)
 have H : ((turnoutlaw01_awake.f k).bind fun t340 => (if a1 < 1 then (turnoutlaw01_ValueBack.j0 k a1 a2 t340 true a0_0 a0_1) else (turnoutlaw01_ValueBack.j0 k a1 a2 t340 (decide (a1 > 128)) a0_0 a0_1))) = some r := h
 clear h
 replace H := Option.bind_eq_some_iff.mp H
 obtain ⟨t340, A40, H⟩ := H
 replace H : (if a1 < 1 then (turnoutlaw01_ValueBack.j0 k a1 a2 t340 true a0_0 a0_1) else (turnoutlaw01_ValueBack.j0 k a1 a2 t340 (decide (a1 > 128)) a0_0 a0_1)) = some r := H
 have A4 := Aside0.mk A40
 clear A40
 have HC5 := Aside0.mk H
 clear H
 go_enter Tryd.func4, Tryd.ntmps4
 go_upto_region 2 with (first | ((with_reducible refine gate_dst (N := 3) rfl ?_); (try (refine gate_guard (by rfl) ?_; dsimp only)); refine box_event ?hg (N := 3) ?hd (cs := #[.int .u64 a0_0, .int .u64 a0_1]) (t := 24) ?hr ?_; (case hd => rfl); (case hg => rfl); (case hr => first | (go_simp; done) | (go_simp; rfl)); intro gb339 hg w6 hbox hb; have n0_ := Aside0.mk (below_step (by repeat (first | (with_reducible first | exact HB.out | apply below_alloc | apply pw_below_drewN | apply below_drew1) | exact HB.out)) hb); have n1_ := Aside0.mk (hbox); have n2_ := Aside0.mk ((by rw [hg]; exact (below_size (by repeat (first | (with_reducible first | exact HB.out | apply below_alloc | apply pw_below_drewN | apply below_drew1) | exact HB.out))) : w.heap.size ≤ gb339)); have n3_ := Aside0.mk ((by rw [hg]; exact (below_size (by repeat (first | (with_reducible first | exact HB.out | apply below_alloc | apply pw_below_drewN | apply below_drew1) | exact HB.out))) : w.heap.size ≤ gb339)); clear HB; have HB := n0_; have BK339 := n1_; have GW339 := n2_; have GE339 := n3_; clear n0_ n1_ n2_ n3_; clear hb hbox hg) | ((with_reducible refine gate_callee (f := 8) rfl ?_); refine goesL_ (some 24) rfl rfl Tryd.func8 (by kernel_rfl) rfl #[] rfl (by (try simp only [List.map_toArray, List.map_cons, List.map_nil]); first | done | rfl | (simp only [List.length_drop, List.length_take]; rfl)) ?_; (with_reducible refine (turnoutlaw01_awake.calls k  t340 _ ?side1 A4.out).mono ?_); (case side1 => exact GlobalsAt.below HG.out (by repeat (first | (with_reducible first | exact HB.out | apply below_alloc | apply pw_below_drewN | apply below_drew1 | refine below_set ?_ GE339.out) | exact HB.out))); rintro e w7 ⟨rfl, hb⟩; refine ⟨_, rfl, ?_⟩; have n0_ := Aside0.mk (blk_below (g := gb339) (o := .cells #[.int .u64 a0_0, .int .u64 a0_1] 24 (0, 0)) (by (with_reducible repeat (first | refine blk_drewN ?_ _ | refine blk_drew ?_ | refine blk_alloc ?_ _)); exact BK339.out) hb); have n1_ := Aside0.mk (below_step (by repeat (first | (with_reducible first | exact HB.out | apply below_alloc | apply pw_below_drewN | apply below_drew1 | refine below_set ?_ GE339.out) | exact HB.out)) hb); clear BK339; clear HB; have BK339 := n0_; have HB := n1_; clear n0_ n1_; (try clear hb); (try clear hb2); (try clear hk); (try clear hi)))
 (try simp only [Act.put, List.setIfInBounds_toArray, List.set_cons_zero, List.set_cons_succ])
 go_cut [30] (fun v30 wc => ∃ (kq : Nat) (x30_4 : Bool), v30 = .bool x30_4 ∧ Aside0 (turnoutlaw01_ValueBack.j0 kq a1 a2 t340 x30_4 a0_0 a0_1 = some r) ∧ Aside0 (kq ≤ k) ∧ Aside0 (wc.heap[gb339]? = some (.cells #[.int .u64 a0_0, .int .u64 a0_1] 24 (0, 0))) ∧ Aside0 (Below w.heap.size w wc))
 case first =>
  have H := HC5.out
  clear HC5
  by_cases c8 : a1 < 1
  ·
   rw [if_pos c8] at H
   have c8b0 : decide (a1 < 1) = true := decide_eq_true c8
   clear c8
   (first | rw [c8b0] | (simp only [i64_w, i32_w]; rw [c8b0]) | skip)
   have H' := Aside0.mk H
   clear H
   go_wp2
   go_meet
   case rel => exact ⟨_, (true), (by first | rfl | (simp; done) | (simp [*]; done)), H', ⟨by first | omega | exact Nat.le_refl _⟩, ⟨by (with_reducible repeat (first | refine blk_drewN ?_ _ | refine blk_drew ?_ | refine blk_alloc ?_ _)); exact BK339.out⟩, ⟨by repeat (first | (with_reducible first | exact HB.out | apply below_alloc | apply pw_below_drewN | apply below_drew1 | refine below_set ?_ GE339.out) | exact HB.out)⟩⟩
  ·
   rw [if_neg c8] at H
   have c8b0 : decide (a1 < 1) = false := decide_eq_false c8
   clear c8
   (first | rw [c8b0] | (simp only [i64_w, i32_w]; rw [c8b0]) | skip)
   have H' := Aside0.mk H
   clear H
   go_wp2
   go_meet
   case rel => exact ⟨_, (decide (a1 > 128)), (by first | rfl | (simp; done) | (simp [*]; done)), H', ⟨by first | omega | exact Nat.le_refl _⟩, ⟨by (with_reducible repeat (first | refine blk_drewN ?_ _ | refine blk_drew ?_ | refine blk_alloc ?_ _)); exact BK339.out⟩, ⟨by repeat (first | (with_reducible first | exact HB.out | apply below_alloc | apply pw_below_drewN | apply below_drew1 | refine below_set ?_ GE339.out) | exact HB.out)⟩⟩
 case rest =>
  clear HC5
  try clear p2
  try clear c4
  try clear c8
  try clear c8b0
  obtain ⟨kq, x30_4, rfl, HA, HJ4, BK339, HB⟩ := hcut
  cases kq with
  | zero => exact absurd HA.out (by simp [turnoutlaw01_ValueBack.j0])
  | succ kj4 =>
   have H := HA.out
   clear HA
   simp only [turnoutlaw01_ValueBack.j0] at H
   by_cases c9 : x30_4 = true
   ·
    subst c9
    have H1 : (some t340) = some r := by rw [if_pos rfl] at H; exact H
    clear H
    have H := H1
    clear H1
    obtain rfl := Option.some.inj H
    go_wp2
    go_ret
    exact ⟨by first | rfl | (simp [errW_none, errW_some] <;> rfl) | (simp [*, errW_none, errW_some] <;> rfl), by repeat (first | (with_reducible first | exact HB.out | apply below_alloc | apply pw_below_drewN | apply below_drew1 | refine below_set ?_ GE339.out) | exact HB.out)⟩
   ·
    replace c9 := Bool.eq_false_iff.mpr c9
    subst c9
    have H1 : ((value_Cut.f a0_0 a0_1 a1).bind fun bt341 => ((value_Bytes.f kj4 bt341.1 bt341.2 a1).bind fun bt344 => ((value_From.f kj4 bt344.1 a1).bind fun bt346 => (if bt344.2 = 0 then (if bt346.2.2 = 0 then (if (!(bt346.1 == bt341.1) || (!(bt346.2.1 == bt341.2))) = true then (turnoutlaw01_ValueBack.j1 kj4 a1 a2 t340 true bt341.1 bt341.2) else (turnoutlaw01_ValueBack.j1 kj4 a1 a2 t340 ((bt344.1.size : Int) != (wrap64 (Int.tdiv (wrap64 (a1 + 7)) 8))) bt341.1 bt341.2)) else (turnoutlaw01_ValueBack.j1 kj4 a1 a2 t340 true bt341.1 bt341.2)) else (turnoutlaw01_ValueBack.j1 kj4 a1 a2 t340 true bt341.1 bt341.2))))) = some r := by rw [if_neg (show ¬ (false = true) by decide)] at H; exact H
    clear H
    have H := H1
    clear H1
    replace H := Option.bind_eq_some_iff.mp H
    obtain ⟨⟨t341, t342⟩, A100, H⟩ := H
    replace H : ((value_Bytes.f kj4 t341 t342 a1).bind fun bt344 => ((value_From.f kj4 bt344.1 a1).bind fun bt346 => (if bt344.2 = 0 then (if bt346.2.2 = 0 then (if (!(bt346.1 == t341) || (!(bt346.2.1 == t342))) = true then (turnoutlaw01_ValueBack.j1 kj4 a1 a2 t340 true t341 t342) else (turnoutlaw01_ValueBack.j1 kj4 a1 a2 t340 ((bt344.1.size : Int) != (wrap64 (Int.tdiv (wrap64 (a1 + 7)) 8))) t341 t342)) else (turnoutlaw01_ValueBack.j1 kj4 a1 a2 t340 true t341 t342)) else (turnoutlaw01_ValueBack.j1 kj4 a1 a2 t340 true t341 t342)))) = some r := H
    have A10 := Aside0.mk A100
    clear A100
    replace H := Option.bind_eq_some_iff.mp H
    obtain ⟨⟨t344, t345⟩, A110, H⟩ := H
    replace H : ((value_From.f kj4 t344 a1).bind fun bt346 => (if t345 = 0 then (if bt346.2.2 = 0 then (if (!(bt346.1 == t341) || (!(bt346.2.1 == t342))) = true then (turnoutlaw01_ValueBack.j1 kj4 a1 a2 t340 true t341 t342) else (turnoutlaw01_ValueBack.j1 kj4 a1 a2 t340 ((t344.size : Int) != (wrap64 (Int.tdiv (wrap64 (a1 + 7)) 8))) t341 t342)) else (turnoutlaw01_ValueBack.j1 kj4 a1 a2 t340 true t341 t342)) else (turnoutlaw01_ValueBack.j1 kj4 a1 a2 t340 true t341 t342))) = some r := H
    have A11 := Aside0.mk A110
    clear A110
    replace H := Option.bind_eq_some_iff.mp H
    obtain ⟨⟨t346, t347, t348⟩, A120, H⟩ := H
    replace H : (if t345 = 0 then (if t348 = 0 then (if (!(t346 == t341) || (!(t347 == t342))) = true then (turnoutlaw01_ValueBack.j1 kj4 a1 a2 t340 true t341 t342) else (turnoutlaw01_ValueBack.j1 kj4 a1 a2 t340 ((t344.size : Int) != (wrap64 (Int.tdiv (wrap64 (a1 + 7)) 8))) t341 t342)) else (turnoutlaw01_ValueBack.j1 kj4 a1 a2 t340 true t341 t342)) else (turnoutlaw01_ValueBack.j1 kj4 a1 a2 t340 true t341 t342)) = some r := H
    have A12 := Aside0.mk A120
    clear A120
    have HC13 := Aside0.mk H
    clear H
    have hcz14_0 : wc.cell? ⟨gb339, 0, none⟩ = some (.int .u64 a0_0) := (blk_cell BK339.out 0).trans rfl
    have hcz14_1 : wc.cell? ⟨gb339, 1, none⟩ = some (.int .u64 a0_1) := (blk_cell BK339.out 1).trans rfl
    have hfz14_0 := blk_frozen BK339.out 0
    have hfz14_1 := blk_frozen BK339.out 1
    go_upto_region 7 with (first | ((with_reducible refine gate_callee (f := 13) rfl ?_); refine goesL_ (some 34) rfl rfl Tryd.func13 (by kernel_rfl) rfl #[.agg #[.int .u64 a0_0, .int .u64 a0_1], .int .i64 a1] rfl (by (try simp only [List.map_toArray, List.map_cons, List.map_nil]); first | done | rfl | (simp only [List.length_drop, List.length_take]; rfl)) ?_; (with_reducible refine (value_Cut.calls a0_0 a0_1 a1 t341 t342 _ A10.out).mono ?_); rintro e w15 ⟨rfl, hb⟩; refine ⟨_, rfl, ?_⟩; have n0_ := Aside0.mk (blk_below (g := gb339) (o := .cells #[.int .u64 a0_0, .int .u64 a0_1] 24 (0, 0)) (by (with_reducible repeat (first | refine blk_drewN ?_ _ | refine blk_drew ?_ | refine blk_alloc ?_ _)); exact BK339.out) hb); have n1_ := Aside0.mk (below_step (by repeat (first | (with_reducible first | exact HB.out | apply below_alloc | apply pw_below_drewN | apply below_drew1 | refine below_set ?_ GE339.out) | exact HB.out)) hb); clear BK339; clear HB; have BK339 := n0_; have HB := n1_; clear n0_ n1_; (try clear hb); (try clear hb2); (try clear hk); (try clear hi)) | ((with_reducible refine gate_dst (N := 8) rfl ?_); (try (refine gate_guard (by rfl) ?_; dsimp only)); refine box_event ?hg (N := 8) ?hd (cs := #[.int .u64 0, .int .u64 0]) (t := 24) ?hr ?_; (case hd => rfl); (case hg => rfl); (case hr => first | (go_simp; done) | (go_simp; rfl)); intro gb343 hg w16 hbox hb; have n0_ := Aside0.mk (blk_below (g := gb339) (o := .cells #[.int .u64 a0_0, .int .u64 a0_1] 24 (0, 0)) (by (with_reducible repeat (first | refine blk_drewN ?_ _ | refine blk_drew ?_ | refine blk_alloc ?_ _)); exact BK339.out) hb); have n1_ := Aside0.mk (below_step (by repeat (first | (with_reducible first | exact HB.out | apply below_alloc | apply pw_below_drewN | apply below_drew1 | refine below_set ?_ GE339.out) | exact HB.out)) hb); have n2_ := Aside0.mk (hbox); have n3_ := Aside0.mk ((by rw [hg]; exact (below_size (by repeat (first | (with_reducible first | exact HB.out | apply below_alloc | apply pw_below_drewN | apply below_drew1 | refine below_set ?_ GE339.out) | exact HB.out))) : w.heap.size ≤ gb343)); have n4_ := Aside0.mk ((by rw [hg]; exact (below_size (by repeat (first | (with_reducible first | exact HB.out | apply below_alloc | apply pw_below_drewN | apply below_drew1 | refine below_set ?_ GE339.out) | exact HB.out))) : w.heap.size ≤ gb343)); have n5_ := Aside0.mk ((by rw [hg]; exact Nat.ne_of_lt (blk_lt (g := gb339) (o := .cells #[.int .u64 a0_0, .int .u64 a0_1] 24 (0, 0)) (by (with_reducible repeat (first | refine blk_drewN ?_ _ | refine blk_drew ?_ | refine blk_alloc ?_ _)); exact BK339.out)) : gb339 ≠ gb343)); have n6_ := Aside0.mk ((by rw [hg]; exact Nat.ne_of_gt (blk_lt (g := gb339) (o := .cells #[.int .u64 a0_0, .int .u64 a0_1] 24 (0, 0)) (by (with_reducible repeat (first | refine blk_drewN ?_ _ | refine blk_drew ?_ | refine blk_alloc ?_ _)); exact BK339.out)) : gb343 ≠ gb339)); clear BK339; clear HB; have BK339 := n0_; have HB := n1_; have BK343 := n2_; have GW343 := n3_; have GE343 := n4_; have NB339_343 := n5_; have NB343_339 := n6_; clear n0_ n1_ n2_ n3_ n4_ n5_ n6_; clear hb hbox hg; have hnb17 := NB343_339.out; have hnc17 := NB339_343.out; have hcz18_0 : w16.cell? ⟨gb343, 0, none⟩ = some (.int .u64 0) := (blk_cell BK343.out 0).trans rfl; have hcz18_1 : w16.cell? ⟨gb343, 1, none⟩ = some (.int .u64 0) := (blk_cell BK343.out 1).trans rfl; have hfz18_0 := blk_frozen BK343.out 0; have hfz18_1 := blk_frozen BK343.out 1) | ((with_reducible refine gate_callee (f := 14) rfl ?_); refine goesL_ (some 38) rfl rfl Tryd.func14 (by kernel_rfl) rfl #[.agg #[.int .u64 t341, .int .u64 t342], .int .i64 a1] rfl (by (try simp only [List.map_toArray, List.map_cons, List.map_nil]); first | done | rfl | (simp only [List.length_drop, List.length_take]; rfl)) ?_; (with_reducible refine (value_Bytes.calls kj4 t341 t342 a1 t344 t345 _ A11.out).mono ?_); rintro e w19 ⟨rfl, hb⟩; refine ⟨_, rfl, ?_⟩; have n0_ := Aside0.mk (blk_below (g := gb339) (o := .cells #[.int .u64 a0_0, .int .u64 a0_1] 24 (0, 0)) (by (with_reducible repeat (first | refine blk_drewN ?_ _ | refine blk_drew ?_ | refine blk_alloc ?_ _)); refine blk_far ?_ NB339_343.out _; (with_reducible repeat (first | refine blk_drewN ?_ _ | refine blk_drew ?_ | refine blk_alloc ?_ _)); refine blk_far ?_ NB339_343.out _; (with_reducible repeat (first | refine blk_drewN ?_ _ | refine blk_drew ?_ | refine blk_alloc ?_ _)); exact BK339.out) hb); have n1_ := Aside0.mk (blk_below (g := gb343) (o := .cells #[.int .u64 t341, .int .u64 t342] 24 (0, 0)) (by (with_reducible repeat (first | refine blk_drewN ?_ _ | refine blk_drew ?_ | refine blk_alloc ?_ _)); refine blk_put (cs := #[.int .u64 t341, .int .u64 0]) ?_ 1 _ rfl; (with_reducible repeat (first | refine blk_drewN ?_ _ | refine blk_drew ?_ | refine blk_alloc ?_ _)); refine blk_put (cs := #[.int .u64 0, .int .u64 0]) ?_ 0 _ rfl; (with_reducible repeat (first | refine blk_drewN ?_ _ | refine blk_drew ?_ | refine blk_alloc ?_ _)); exact BK343.out) hb); have n2_ := Aside0.mk (below_step (by repeat (first | (with_reducible first | exact HB.out | apply below_alloc | apply pw_below_drewN | apply below_drew1 | refine below_set ?_ GE339.out | refine below_set ?_ GE343.out) | exact HB.out)) hb); clear BK339; clear BK343; clear HB; have BK339 := n0_; have BK343 := n1_; have HB := n2_; clear n0_ n1_ n2_; (try clear hb); (try clear hb2); (try clear hk); (try clear hi)) | ((with_reducible refine gate_callee (f := 15) rfl ?_); refine goesL_ (some 44) rfl rfl Tryd.func15 (by kernel_rfl) rfl #[.string t344, .int .i64 a1] rfl (by (try simp only [List.map_toArray, List.map_cons, List.map_nil]); first | done | rfl | (simp only [List.length_drop, List.length_take]; rfl)) ?_; (with_reducible refine (value_From.calls kj4 t344 a1 t346 t347 t348 _ A12.out).mono ?_); rintro e w20 ⟨rfl, hb⟩; refine ⟨_, rfl, ?_⟩; have n0_ := Aside0.mk (blk_below (g := gb339) (o := .cells #[.int .u64 a0_0, .int .u64 a0_1] 24 (0, 0)) (by (with_reducible repeat (first | refine blk_drewN ?_ _ | refine blk_drew ?_ | refine blk_alloc ?_ _)); exact BK339.out) hb); have n1_ := Aside0.mk (blk_below (g := gb343) (o := .cells #[.int .u64 t341, .int .u64 t342] 24 (0, 0)) (by (with_reducible repeat (first | refine blk_drewN ?_ _ | refine blk_drew ?_ | refine blk_alloc ?_ _)); exact BK343.out) hb); have n2_ := Aside0.mk (below_step (by repeat (first | (with_reducible first | exact HB.out | apply below_alloc | apply pw_below_drewN | apply below_drew1 | refine below_set ?_ GE339.out | refine below_set ?_ GE343.out) | exact HB.out)) hb); clear BK339; clear BK343; clear HB; have BK339 := n0_; have BK343 := n1_; have HB := n2_; clear n0_ n1_ n2_; (try clear hb); (try clear hb2); (try clear hk); (try clear hi)) | ((with_reducible refine gate_dst (N := 11) rfl ?_); (try (refine gate_guard (by rfl) ?_; dsimp only)); refine box_event ?hg (N := 11) ?hd (cs := #[.int .u64 0, .int .u64 0]) (t := 24) ?hr ?_; (case hd => rfl); (case hg => rfl); (case hr => first | (go_simp; done) | (go_simp; rfl)); intro gb349 hg w21 hbox hb; have n0_ := Aside0.mk (blk_below (g := gb339) (o := .cells #[.int .u64 a0_0, .int .u64 a0_1] 24 (0, 0)) (by (with_reducible repeat (first | refine blk_drewN ?_ _ | refine blk_drew ?_ | refine blk_alloc ?_ _)); exact BK339.out) hb); have n1_ := Aside0.mk (blk_below (g := gb343) (o := .cells #[.int .u64 t341, .int .u64 t342] 24 (0, 0)) (by (with_reducible repeat (first | refine blk_drewN ?_ _ | refine blk_drew ?_ | refine blk_alloc ?_ _)); exact BK343.out) hb); have n2_ := Aside0.mk (below_step (by repeat (first | (with_reducible first | exact HB.out | apply below_alloc | apply pw_below_drewN | apply below_drew1 | refine below_set ?_ GE339.out | refine below_set ?_ GE343.out) | exact HB.out)) hb); have n3_ := Aside0.mk (hbox); have n4_ := Aside0.mk ((by rw [hg]; exact (below_size (by repeat (first | (with_reducible first | exact HB.out | apply below_alloc | apply pw_below_drewN | apply below_drew1 | refine below_set ?_ GE339.out | refine below_set ?_ GE343.out) | exact HB.out))) : w.heap.size ≤ gb349)); have n5_ := Aside0.mk ((by rw [hg]; exact (below_size (by repeat (first | (with_reducible first | exact HB.out | apply below_alloc | apply pw_below_drewN | apply below_drew1 | refine below_set ?_ GE339.out | refine below_set ?_ GE343.out) | exact HB.out))) : w.heap.size ≤ gb349)); have n6_ := Aside0.mk ((by rw [hg]; exact Nat.ne_of_lt (blk_lt (g := gb339) (o := .cells #[.int .u64 a0_0, .int .u64 a0_1] 24 (0, 0)) (by (with_reducible repeat (first | refine blk_drewN ?_ _ | refine blk_drew ?_ | refine blk_alloc ?_ _)); exact BK339.out)) : gb339 ≠ gb349)); have n7_ := Aside0.mk ((by rw [hg]; exact Nat.ne_of_gt (blk_lt (g := gb339) (o := .cells #[.int .u64 a0_0, .int .u64 a0_1] 24 (0, 0)) (by (with_reducible repeat (first | refine blk_drewN ?_ _ | refine blk_drew ?_ | refine blk_alloc ?_ _)); exact BK339.out)) : gb349 ≠ gb339)); have n8_ := Aside0.mk ((by rw [hg]; exact Nat.ne_of_lt (blk_lt (g := gb343) (o := .cells #[.int .u64 t341, .int .u64 t342] 24 (0, 0)) (by (with_reducible repeat (first | refine blk_drewN ?_ _ | refine blk_drew ?_ | refine blk_alloc ?_ _)); exact BK343.out)) : gb343 ≠ gb349)); have n9_ := Aside0.mk ((by rw [hg]; exact Nat.ne_of_gt (blk_lt (g := gb343) (o := .cells #[.int .u64 t341, .int .u64 t342] 24 (0, 0)) (by (with_reducible repeat (first | refine blk_drewN ?_ _ | refine blk_drew ?_ | refine blk_alloc ?_ _)); exact BK343.out)) : gb349 ≠ gb343)); clear BK339; clear BK343; clear HB; have BK339 := n0_; have BK343 := n1_; have HB := n2_; have BK349 := n3_; have GW349 := n4_; have GE349 := n5_; have NB339_349 := n6_; have NB349_339 := n7_; have NB343_349 := n8_; have NB349_343 := n9_; clear n0_ n1_ n2_ n3_ n4_ n5_ n6_ n7_ n8_ n9_; clear hb hbox hg; have hnb22 := NB349_339.out; have hnc22 := NB339_349.out; have hnb23 := NB349_343.out; have hnc23 := NB343_349.out; have hcz24_0 : w21.cell? ⟨gb349, 0, none⟩ = some (.int .u64 0) := (blk_cell BK349.out 0).trans rfl; have hcz24_1 : w21.cell? ⟨gb349, 1, none⟩ = some (.int .u64 0) := (blk_cell BK349.out 1).trans rfl; have hfz24_0 := blk_frozen BK349.out 0; have hfz24_1 := blk_frozen BK349.out 1))
    (try simp only [Act.put, List.setIfInBounds_toArray, List.set_cons_zero, List.set_cons_succ])
    go_cut [65] (fun v65 wc => ∃ (kq : Nat) (x65_12 : Bool), v65 = .bool x65_12 ∧ Aside0 (turnoutlaw01_ValueBack.j1 kq a1 a2 t340 x65_12 t341 t342 = some r) ∧ Aside0 (kq ≤ kj4) ∧ Aside0 (wc.heap[gb339]? = some (.cells #[.int .u64 a0_0, .int .u64 a0_1] 24 (0, 0))) ∧ Aside0 (wc.heap[gb343]? = some (.cells #[.int .u64 t341, .int .u64 t342] 24 (0, 0))) ∧ Aside0 (wc.heap[gb349]? = some (.cells #[.int .u64 t346, .int .u64 t347] 24 (0, 0))) ∧ Aside0 (Below w.heap.size w wc))
    case first =>
     have H := HC13.out
     clear HC13
     by_cases c25 : t345 = 0
     ·
      rw [if_pos c25] at H
      have c25b0 : (t345 == 0) = true := beq_iff_eq.mpr c25
      have c25b1 : (t345 != 0) = false := bne_eq_false_iff_eq.mpr c25
      clear c25
      (first | rw [c25b0] | (simp only [i64_w, i32_w]; rw [c25b0]) | skip)
      by_cases c26 : t348 = 0
      ·
       rw [if_pos c26] at H
       have c26b0 : (t348 == 0) = true := beq_iff_eq.mpr c26
       have c26b1 : (t348 != 0) = false := bne_eq_false_iff_eq.mpr c26
       clear c26
       by_cases c27 : (!(t346 == t341) || (!(t347 == t342))) = true
       ·
        rw [if_pos c27] at H
        have c27b0 : (!(t346 == t341) || (!(t347 == t342))) = true := c27
        clear c27
        have H' := Aside0.mk H
        clear H
        have hnb28 := NB349_339.out
        have hnc28 := NB339_349.out
        have hnb29 := NB349_343.out
        have hnc29 := NB343_349.out
        have hcz30_0 : w21.cell? ⟨gb349, 0, none⟩ = some (.int .u64 0) := (blk_cell BK349.out 0).trans rfl
        have hcz30_1 : w21.cell? ⟨gb349, 1, none⟩ = some (.int .u64 0) := (blk_cell BK349.out 1).trans rfl
        have hfz30_0 := blk_frozen BK349.out 0
        have hfz30_1 := blk_frozen BK349.out 1
        have hnb31 := NB343_339.out
        have hnc31 := NB339_343.out
        have hcz32_0 : w21.cell? ⟨gb343, 0, none⟩ = some (.int .u64 t341) := (blk_cell BK343.out 0).trans rfl
        have hcz32_1 : w21.cell? ⟨gb343, 1, none⟩ = some (.int .u64 t342) := (blk_cell BK343.out 1).trans rfl
        have hfz32_0 := blk_frozen BK343.out 0
        have hfz32_1 := blk_frozen BK343.out 1
        go_wp2
        go_meet
        case rel => exact ⟨_, (true), (by first | rfl | (simp; done) | (simp [*]; done)), H', ⟨by have := HJ4.out; first | omega | exact Nat.le_refl _⟩, ⟨by (with_reducible repeat (first | refine blk_drewN ?_ _ | refine blk_drew ?_ | refine blk_alloc ?_ _)); refine blk_far ?_ NB339_349.out _; (with_reducible repeat (first | refine blk_drewN ?_ _ | refine blk_drew ?_ | refine blk_alloc ?_ _)); refine blk_far ?_ NB339_349.out _; (with_reducible repeat (first | refine blk_drewN ?_ _ | refine blk_drew ?_ | refine blk_alloc ?_ _)); exact BK339.out⟩, ⟨by (with_reducible repeat (first | refine blk_drewN ?_ _ | refine blk_drew ?_ | refine blk_alloc ?_ _)); refine blk_far ?_ NB343_349.out _; (with_reducible repeat (first | refine blk_drewN ?_ _ | refine blk_drew ?_ | refine blk_alloc ?_ _)); refine blk_far ?_ NB343_349.out _; (with_reducible repeat (first | refine blk_drewN ?_ _ | refine blk_drew ?_ | refine blk_alloc ?_ _)); exact BK343.out⟩, ⟨by (with_reducible repeat (first | refine blk_drewN ?_ _ | refine blk_drew ?_ | refine blk_alloc ?_ _)); refine blk_put (cs := #[.int .u64 t346, .int .u64 0]) ?_ 1 _ rfl; (with_reducible repeat (first | refine blk_drewN ?_ _ | refine blk_drew ?_ | refine blk_alloc ?_ _)); refine blk_put (cs := #[.int .u64 0, .int .u64 0]) ?_ 0 _ rfl; (with_reducible repeat (first | refine blk_drewN ?_ _ | refine blk_drew ?_ | refine blk_alloc ?_ _)); exact BK349.out⟩, ⟨by repeat (first | (with_reducible first | exact HB.out | apply below_alloc | apply pw_below_drewN | apply below_drew1 | refine below_set ?_ GE339.out | refine below_set ?_ GE343.out | refine below_set ?_ GE349.out) | exact HB.out)⟩⟩
       ·
        rw [if_neg c27] at H
        have c27b0 : (!(t346 == t341) || (!(t347 == t342))) = false := by simpa using c27
        clear c27
        have H' := Aside0.mk H
        clear H
        have hnb33 := NB349_339.out
        have hnc33 := NB339_349.out
        have hnb34 := NB349_343.out
        have hnc34 := NB343_349.out
        have hcz35_0 : w21.cell? ⟨gb349, 0, none⟩ = some (.int .u64 0) := (blk_cell BK349.out 0).trans rfl
        have hcz35_1 : w21.cell? ⟨gb349, 1, none⟩ = some (.int .u64 0) := (blk_cell BK349.out 1).trans rfl
        have hfz35_0 := blk_frozen BK349.out 0
        have hfz35_1 := blk_frozen BK349.out 1
        have hnb36 := NB343_339.out
        have hnc36 := NB339_343.out
        have hcz37_0 : w21.cell? ⟨gb343, 0, none⟩ = some (.int .u64 t341) := (blk_cell BK343.out 0).trans rfl
        have hcz37_1 : w21.cell? ⟨gb343, 1, none⟩ = some (.int .u64 t342) := (blk_cell BK343.out 1).trans rfl
        have hfz37_0 := blk_frozen BK343.out 0
        have hfz37_1 := blk_frozen BK343.out 1
        go_wp2
        go_meet
        case rel => exact ⟨_, (((t344.size : Int) != (wrap64 (Int.tdiv (wrap64 (a1 + 7)) 8)))), (by first | rfl | (simp; done) | (simp [*]; done)), H', ⟨by have := HJ4.out; first | omega | exact Nat.le_refl _⟩, ⟨by (with_reducible repeat (first | refine blk_drewN ?_ _ | refine blk_drew ?_ | refine blk_alloc ?_ _)); refine blk_far ?_ NB339_349.out _; (with_reducible repeat (first | refine blk_drewN ?_ _ | refine blk_drew ?_ | refine blk_alloc ?_ _)); refine blk_far ?_ NB339_349.out _; (with_reducible repeat (first | refine blk_drewN ?_ _ | refine blk_drew ?_ | refine blk_alloc ?_ _)); exact BK339.out⟩, ⟨by (with_reducible repeat (first | refine blk_drewN ?_ _ | refine blk_drew ?_ | refine blk_alloc ?_ _)); refine blk_far ?_ NB343_349.out _; (with_reducible repeat (first | refine blk_drewN ?_ _ | refine blk_drew ?_ | refine blk_alloc ?_ _)); refine blk_far ?_ NB343_349.out _; (with_reducible repeat (first | refine blk_drewN ?_ _ | refine blk_drew ?_ | refine blk_alloc ?_ _)); exact BK343.out⟩, ⟨by (with_reducible repeat (first | refine blk_drewN ?_ _ | refine blk_drew ?_ | refine blk_alloc ?_ _)); refine blk_put (cs := #[.int .u64 t346, .int .u64 0]) ?_ 1 _ rfl; (with_reducible repeat (first | refine blk_drewN ?_ _ | refine blk_drew ?_ | refine blk_alloc ?_ _)); refine blk_put (cs := #[.int .u64 0, .int .u64 0]) ?_ 0 _ rfl; (with_reducible repeat (first | refine blk_drewN ?_ _ | refine blk_drew ?_ | refine blk_alloc ?_ _)); exact BK349.out⟩, ⟨by repeat (first | (with_reducible first | exact HB.out | apply below_alloc | apply pw_below_drewN | apply below_drew1 | refine below_set ?_ GE339.out | refine below_set ?_ GE343.out | refine below_set ?_ GE349.out) | exact HB.out)⟩⟩
      ·
       rw [if_neg c26] at H
       have c26b0 : (t348 == 0) = false := beq_eq_false_iff_ne.mpr c26
       have c26b1 : (t348 != 0) = true := bne_iff_ne.mpr c26
       have H' := Aside0.mk H
       clear H
       go_wp2
       go_meet
       case rel => exact ⟨_, (true), (by first | rfl | (simp; done) | (simp [*]; done)), H', ⟨by have := HJ4.out; first | omega | exact Nat.le_refl _⟩, ⟨by (with_reducible repeat (first | refine blk_drewN ?_ _ | refine blk_drew ?_ | refine blk_alloc ?_ _)); refine blk_far ?_ NB339_349.out _; (with_reducible repeat (first | refine blk_drewN ?_ _ | refine blk_drew ?_ | refine blk_alloc ?_ _)); refine blk_far ?_ NB339_349.out _; (with_reducible repeat (first | refine blk_drewN ?_ _ | refine blk_drew ?_ | refine blk_alloc ?_ _)); exact BK339.out⟩, ⟨by (with_reducible repeat (first | refine blk_drewN ?_ _ | refine blk_drew ?_ | refine blk_alloc ?_ _)); refine blk_far ?_ NB343_349.out _; (with_reducible repeat (first | refine blk_drewN ?_ _ | refine blk_drew ?_ | refine blk_alloc ?_ _)); refine blk_far ?_ NB343_349.out _; (with_reducible repeat (first | refine blk_drewN ?_ _ | refine blk_drew ?_ | refine blk_alloc ?_ _)); exact BK343.out⟩, ⟨by (with_reducible repeat (first | refine blk_drewN ?_ _ | refine blk_drew ?_ | refine blk_alloc ?_ _)); refine blk_put (cs := #[.int .u64 t346, .int .u64 0]) ?_ 1 _ rfl; (with_reducible repeat (first | refine blk_drewN ?_ _ | refine blk_drew ?_ | refine blk_alloc ?_ _)); refine blk_put (cs := #[.int .u64 0, .int .u64 0]) ?_ 0 _ rfl; (with_reducible repeat (first | refine blk_drewN ?_ _ | refine blk_drew ?_ | refine blk_alloc ?_ _)); exact BK349.out⟩, ⟨by repeat (first | (with_reducible first | exact HB.out | apply below_alloc | apply pw_below_drewN | apply below_drew1 | refine below_set ?_ GE339.out | refine below_set ?_ GE343.out | refine below_set ?_ GE349.out) | exact HB.out)⟩⟩
     ·
      rw [if_neg c25] at H
      have c25b0 : (t345 == 0) = false := beq_eq_false_iff_ne.mpr c25
      have c25b1 : (t345 != 0) = true := bne_iff_ne.mpr c25
      (first | rw [c25b0] | (simp only [i64_w, i32_w]; rw [c25b0]) | skip)
      have H' := Aside0.mk H
      clear H
      go_wp2
      go_meet
      case rel => exact ⟨_, (true), (by first | rfl | (simp; done) | (simp [*]; done)), H', ⟨by have := HJ4.out; first | omega | exact Nat.le_refl _⟩, ⟨by (with_reducible repeat (first | refine blk_drewN ?_ _ | refine blk_drew ?_ | refine blk_alloc ?_ _)); refine blk_far ?_ NB339_349.out _; (with_reducible repeat (first | refine blk_drewN ?_ _ | refine blk_drew ?_ | refine blk_alloc ?_ _)); refine blk_far ?_ NB339_349.out _; (with_reducible repeat (first | refine blk_drewN ?_ _ | refine blk_drew ?_ | refine blk_alloc ?_ _)); exact BK339.out⟩, ⟨by (with_reducible repeat (first | refine blk_drewN ?_ _ | refine blk_drew ?_ | refine blk_alloc ?_ _)); refine blk_far ?_ NB343_349.out _; (with_reducible repeat (first | refine blk_drewN ?_ _ | refine blk_drew ?_ | refine blk_alloc ?_ _)); refine blk_far ?_ NB343_349.out _; (with_reducible repeat (first | refine blk_drewN ?_ _ | refine blk_drew ?_ | refine blk_alloc ?_ _)); exact BK343.out⟩, ⟨by (with_reducible repeat (first | refine blk_drewN ?_ _ | refine blk_drew ?_ | refine blk_alloc ?_ _)); refine blk_put (cs := #[.int .u64 t346, .int .u64 0]) ?_ 1 _ rfl; (with_reducible repeat (first | refine blk_drewN ?_ _ | refine blk_drew ?_ | refine blk_alloc ?_ _)); refine blk_put (cs := #[.int .u64 0, .int .u64 0]) ?_ 0 _ rfl; (with_reducible repeat (first | refine blk_drewN ?_ _ | refine blk_drew ?_ | refine blk_alloc ?_ _)); exact BK349.out⟩, ⟨by repeat (first | (with_reducible first | exact HB.out | apply below_alloc | apply pw_below_drewN | apply below_drew1 | refine below_set ?_ GE339.out | refine below_set ?_ GE343.out | refine below_set ?_ GE349.out) | exact HB.out)⟩⟩
    case rest =>
     clear HC13
     try clear c1
     try clear c2
     try clear p2
     try clear c3
     try clear c4
     try clear p6
     try clear c8
     try clear c8b0
     try clear c9
     try clear c13
     try clear c14
     try clear c15
     try clear c17
     try clear c22
     try clear c23
     try clear c25
     try clear c25b0
     try clear c25b1
     try clear c26
     try clear c26b0
     try clear c26b1
     try clear c27
     try clear c27b0
     try clear c28
     try clear c29
     try clear c31
     try clear c33
     try clear c34
     try clear c36
     try clear hcz14_0
     try clear hcz14_1
     try clear hcz18_0
     try clear hcz18_1
     try clear hcz24_0
     try clear hcz24_1
     try clear hcz30_0
     try clear hcz30_1
     try clear hcz32_0
     try clear hcz32_1
     try clear hcz35_0
     try clear hcz35_1
     try clear hcz37_0
     try clear hcz37_1
     try clear hfz14_0
     try clear hfz14_1
     try clear hfz18_0
     try clear hfz18_1
     try clear hfz24_0
     try clear hfz24_1
     try clear hfz30_0
     try clear hfz30_1
     try clear hfz32_0
     try clear hfz32_1
     try clear hfz35_0
     try clear hfz35_1
     try clear hfz37_0
     try clear hfz37_1
     try clear p2
     obtain ⟨kq, x65_12, rfl, HA, HJ12, BK339, BK343, BK349, HB⟩ := hcut
     cases kq with
     | zero => exact absurd HA.out (by simp [turnoutlaw01_ValueBack.j1])
     | succ kj12 =>
      have H := HA.out
      clear HA
      simp only [turnoutlaw01_ValueBack.j1] at H
      by_cases c38 : x65_12 = true
      ·
       subst c38
       have H1 : (some false) = some r := by rw [if_pos rfl] at H; exact H
       clear H
       have H := H1
       clear H1
       exact absurd ((Option.some.inj H).trans hrt.out) (by decide)
      ·
       replace c38 := Bool.eq_false_iff.mpr c38
       subst c38
       have H1 : ((value_Parse.f kj12 a2 a1).bind fun bt350 => (turnoutlaw01_ValueBack.l0 kj12 a1 a2 t340 (bt350.2.2 != 0) 1 t341 t342 bt350.1 bt350.2.1)) = some r := by rw [if_neg (show ¬ (false = true) by decide)] at H; exact H
       clear H
       have H := H1
       clear H1
       replace H := Option.bind_eq_some_iff.mp H
       obtain ⟨⟨t350, t351, t352⟩, A390, H⟩ := H
       replace H : (turnoutlaw01_ValueBack.l0 kj12 a1 a2 t340 (t352 != 0) 1 t341 t342 t350 t351) = some r := H
       have A39 := Aside0.mk A390
       clear A390
       have H' := Aside0.mk H
       clear H
       go_wp2_with (first | ((with_reducible refine gate_callee (f := 10) rfl ?_); refine goesL_ (some 69) rfl rfl Tryd.func10 (by kernel_rfl) rfl #[.string a2, .int .i64 a1] rfl (by (try simp only [List.map_toArray, List.map_cons, List.map_nil]); first | done | rfl | (simp only [List.length_drop, List.length_take]; rfl)) ?_; (with_reducible refine (value_Parse.calls kj12 a2 a1 t350 t351 t352 _ A39.out).mono ?_); rintro e w40 ⟨rfl, hb⟩; refine ⟨_, rfl, ?_⟩; have n0_ := Aside0.mk (blk_below (g := gb339) (o := .cells #[.int .u64 a0_0, .int .u64 a0_1] 24 (0, 0)) (by (with_reducible repeat (first | refine blk_drewN ?_ _ | refine blk_drew ?_ | refine blk_alloc ?_ _)); exact BK339.out) hb); have n1_ := Aside0.mk (blk_below (g := gb343) (o := .cells #[.int .u64 t341, .int .u64 t342] 24 (0, 0)) (by (with_reducible repeat (first | refine blk_drewN ?_ _ | refine blk_drew ?_ | refine blk_alloc ?_ _)); exact BK343.out) hb); have n2_ := Aside0.mk (blk_below (g := gb349) (o := .cells #[.int .u64 t346, .int .u64 t347] 24 (0, 0)) (by (with_reducible repeat (first | refine blk_drewN ?_ _ | refine blk_drew ?_ | refine blk_alloc ?_ _)); exact BK349.out) hb); have n3_ := Aside0.mk (below_step (by repeat (first | (with_reducible first | exact HB.out | apply below_alloc | apply pw_below_drewN | apply below_drew1 | refine below_set ?_ GE339.out | refine below_set ?_ GE343.out | refine below_set ?_ GE349.out) | exact HB.out)) hb); clear BK339; clear BK343; clear BK349; clear HB; have BK339 := n0_; have BK343 := n1_; have BK349 := n2_; have HB := n3_; clear n0_ n1_ n2_ n3_; (try clear hb); (try clear hb2); (try clear hk); (try clear hi)) | ((with_reducible refine gate_dst (N := 13) rfl ?_); (try (refine gate_guard (by rfl) ?_; dsimp only)); refine box_event ?hg (N := 13) ?hd (cs := #[.int .u64 0, .int .u64 0]) (t := 24) ?hr ?_; (case hd => rfl); (case hg => rfl); (case hr => first | (go_simp; done) | (go_simp; rfl)); intro gb353 hg w41 hbox hb; have n0_ := Aside0.mk (blk_below (g := gb339) (o := .cells #[.int .u64 a0_0, .int .u64 a0_1] 24 (0, 0)) (by (with_reducible repeat (first | refine blk_drewN ?_ _ | refine blk_drew ?_ | refine blk_alloc ?_ _)); exact BK339.out) hb); have n1_ := Aside0.mk (blk_below (g := gb343) (o := .cells #[.int .u64 t341, .int .u64 t342] 24 (0, 0)) (by (with_reducible repeat (first | refine blk_drewN ?_ _ | refine blk_drew ?_ | refine blk_alloc ?_ _)); exact BK343.out) hb); have n2_ := Aside0.mk (blk_below (g := gb349) (o := .cells #[.int .u64 t346, .int .u64 t347] 24 (0, 0)) (by (with_reducible repeat (first | refine blk_drewN ?_ _ | refine blk_drew ?_ | refine blk_alloc ?_ _)); exact BK349.out) hb); have n3_ := Aside0.mk (below_step (by repeat (first | (with_reducible first | exact HB.out | apply below_alloc | apply pw_below_drewN | apply below_drew1 | refine below_set ?_ GE339.out | refine below_set ?_ GE343.out | refine below_set ?_ GE349.out) | exact HB.out)) hb); have n4_ := Aside0.mk (hbox); have n5_ := Aside0.mk ((by rw [hg]; exact (below_size (by repeat (first | (with_reducible first | exact HB.out | apply below_alloc | apply pw_below_drewN | apply below_drew1 | refine below_set ?_ GE339.out | refine below_set ?_ GE343.out | refine below_set ?_ GE349.out) | exact HB.out))) : w.heap.size ≤ gb353)); have n6_ := Aside0.mk ((by rw [hg]; exact (below_size (by repeat (first | (with_reducible first | exact HB.out | apply below_alloc | apply pw_below_drewN | apply below_drew1 | refine below_set ?_ GE339.out | refine below_set ?_ GE343.out | refine below_set ?_ GE349.out) | exact HB.out))) : w.heap.size ≤ gb353)); have n7_ := Aside0.mk ((by rw [hg]; exact Nat.ne_of_lt (blk_lt (g := gb339) (o := .cells #[.int .u64 a0_0, .int .u64 a0_1] 24 (0, 0)) (by (with_reducible repeat (first | refine blk_drewN ?_ _ | refine blk_drew ?_ | refine blk_alloc ?_ _)); exact BK339.out)) : gb339 ≠ gb353)); have n8_ := Aside0.mk ((by rw [hg]; exact Nat.ne_of_gt (blk_lt (g := gb339) (o := .cells #[.int .u64 a0_0, .int .u64 a0_1] 24 (0, 0)) (by (with_reducible repeat (first | refine blk_drewN ?_ _ | refine blk_drew ?_ | refine blk_alloc ?_ _)); exact BK339.out)) : gb353 ≠ gb339)); have n9_ := Aside0.mk ((by rw [hg]; exact Nat.ne_of_lt (blk_lt (g := gb343) (o := .cells #[.int .u64 t341, .int .u64 t342] 24 (0, 0)) (by (with_reducible repeat (first | refine blk_drewN ?_ _ | refine blk_drew ?_ | refine blk_alloc ?_ _)); exact BK343.out)) : gb343 ≠ gb353)); have n10_ := Aside0.mk ((by rw [hg]; exact Nat.ne_of_gt (blk_lt (g := gb343) (o := .cells #[.int .u64 t341, .int .u64 t342] 24 (0, 0)) (by (with_reducible repeat (first | refine blk_drewN ?_ _ | refine blk_drew ?_ | refine blk_alloc ?_ _)); exact BK343.out)) : gb353 ≠ gb343)); have n11_ := Aside0.mk ((by rw [hg]; exact Nat.ne_of_lt (blk_lt (g := gb349) (o := .cells #[.int .u64 t346, .int .u64 t347] 24 (0, 0)) (by (with_reducible repeat (first | refine blk_drewN ?_ _ | refine blk_drew ?_ | refine blk_alloc ?_ _)); exact BK349.out)) : gb349 ≠ gb353)); have n12_ := Aside0.mk ((by rw [hg]; exact Nat.ne_of_gt (blk_lt (g := gb349) (o := .cells #[.int .u64 t346, .int .u64 t347] 24 (0, 0)) (by (with_reducible repeat (first | refine blk_drewN ?_ _ | refine blk_drew ?_ | refine blk_alloc ?_ _)); exact BK349.out)) : gb353 ≠ gb349)); clear BK339; clear BK343; clear BK349; clear HB; have BK339 := n0_; have BK343 := n1_; have BK349 := n2_; have HB := n3_; have BK353 := n4_; have GW353 := n5_; have GE353 := n6_; have NB339_353 := n7_; have NB353_339 := n8_; have NB343_353 := n9_; have NB353_343 := n10_; have NB349_353 := n11_; have NB353_349 := n12_; clear n0_ n1_ n2_ n3_ n4_ n5_ n6_ n7_ n8_ n9_ n10_ n11_ n12_; clear hb hbox hg; have hnb42 := NB353_339.out; have hnc42 := NB339_353.out; have hnb43 := NB353_343.out; have hnc43 := NB343_353.out; have hnb44 := NB353_349.out; have hnc44 := NB349_353.out; have hcz45_0 : w41.cell? ⟨gb353, 0, none⟩ = some (.int .u64 0) := (blk_cell BK353.out 0).trans rfl; have hcz45_1 : w41.cell? ⟨gb353, 1, none⟩ = some (.int .u64 0) := (blk_cell BK353.out 1).trans rfl; have hfz45_0 := blk_frozen BK353.out 0; have hfz45_1 := blk_frozen BK353.out 1))
       go_loopg [15, 16] kj12 (fun kq v15 v16 w' => ∃ (x15_3 : Bool) (x16_3 : Int), v15 = .bool x15_3 ∧ v16 = .int .i64 x16_3 ∧ Aside0 (turnoutlaw01_ValueBack.l0 kq a1 a2 t340 x15_3 x16_3 t341 t342 t350 t351 = some r) ∧ Aside0 (kq ≤ kj12) ∧ Aside0 (w'.heap[gb339]? = some (.cells #[.int .u64 a0_0, .int .u64 a0_1] 24 (0, 0))) ∧ Aside0 (w'.heap[gb343]? = some (.cells #[.int .u64 t341, .int .u64 t342] 24 (0, 0))) ∧ Aside0 (w'.heap[gb349]? = some (.cells #[.int .u64 t346, .int .u64 t347] 24 (0, 0))) ∧ Aside0 (w'.heap[gb353]? = some (.cells #[.int .u64 t350, .int .u64 t351] 24 (0, 0))) ∧ Aside0 (Below w.heap.size w w'))
       case atStart => exact ⟨((t352 != 0)), (1), (by first | rfl | (simp; done) | (simp [*]; done)), (by first | rfl | (simp; done) | (simp [*]; done)), H', ⟨Nat.le_refl _⟩, ⟨by (with_reducible repeat (first | refine blk_drewN ?_ _ | refine blk_drew ?_ | refine blk_alloc ?_ _)); refine blk_far ?_ NB339_353.out _; (with_reducible repeat (first | refine blk_drewN ?_ _ | refine blk_drew ?_ | refine blk_alloc ?_ _)); refine blk_far ?_ NB339_353.out _; (with_reducible repeat (first | refine blk_drewN ?_ _ | refine blk_drew ?_ | refine blk_alloc ?_ _)); exact BK339.out⟩, ⟨by (with_reducible repeat (first | refine blk_drewN ?_ _ | refine blk_drew ?_ | refine blk_alloc ?_ _)); refine blk_far ?_ NB343_353.out _; (with_reducible repeat (first | refine blk_drewN ?_ _ | refine blk_drew ?_ | refine blk_alloc ?_ _)); refine blk_far ?_ NB343_353.out _; (with_reducible repeat (first | refine blk_drewN ?_ _ | refine blk_drew ?_ | refine blk_alloc ?_ _)); exact BK343.out⟩, ⟨by (with_reducible repeat (first | refine blk_drewN ?_ _ | refine blk_drew ?_ | refine blk_alloc ?_ _)); refine blk_far ?_ NB349_353.out _; (with_reducible repeat (first | refine blk_drewN ?_ _ | refine blk_drew ?_ | refine blk_alloc ?_ _)); refine blk_far ?_ NB349_353.out _; (with_reducible repeat (first | refine blk_drewN ?_ _ | refine blk_drew ?_ | refine blk_alloc ?_ _)); exact BK349.out⟩, ⟨by (with_reducible repeat (first | refine blk_drewN ?_ _ | refine blk_drew ?_ | refine blk_alloc ?_ _)); refine blk_put (cs := #[.int .u64 t350, .int .u64 0]) ?_ 1 _ rfl; (with_reducible repeat (first | refine blk_drewN ?_ _ | refine blk_drew ?_ | refine blk_alloc ?_ _)); refine blk_put (cs := #[.int .u64 0, .int .u64 0]) ?_ 0 _ rfl; (with_reducible repeat (first | refine blk_drewN ?_ _ | refine blk_drew ?_ | refine blk_alloc ?_ _)); exact BK353.out⟩, ⟨by repeat (first | (with_reducible first | exact HB.out | apply below_alloc | apply pw_below_drewN | apply below_drew1 | refine below_set ?_ GE339.out | refine below_set ?_ GE343.out | refine below_set ?_ GE349.out | refine below_set ?_ GE353.out) | exact HB.out)⟩⟩
       case round =>
        clear H'
        try clear c1
        try clear c2
        try clear p2
        try clear c3
        try clear c4
        try clear p6
        try clear c8
        try clear c8b0
        try clear c9
        try clear c10
        try clear c13
        try clear c14
        try clear c15
        try clear c17
        try clear c22
        try clear c23
        try clear c25
        try clear c25b0
        try clear c25b1
        try clear c26
        try clear c26b0
        try clear c26b1
        try clear c27
        try clear c27b0
        try clear c28
        try clear c29
        try clear c31
        try clear c33
        try clear c34
        try clear c36
        try clear c38
        try clear c42
        try clear c43
        try clear c44
        try clear hcz14_0
        try clear hcz14_1
        try clear hcz18_0
        try clear hcz18_1
        try clear hcz24_0
        try clear hcz24_1
        try clear hcz30_0
        try clear hcz30_1
        try clear hcz32_0
        try clear hcz32_1
        try clear hcz35_0
        try clear hcz35_1
        try clear hcz37_0
        try clear hcz37_1
        try clear hcz45_0
        try clear hcz45_1
        try clear hfz14_0
        try clear hfz14_1
        try clear hfz18_0
        try clear hfz18_1
        try clear hfz24_0
        try clear hfz24_1
        try clear hfz30_0
        try clear hfz30_1
        try clear hfz32_0
        try clear hfz32_1
        try clear hfz35_0
        try clear hfz35_1
        try clear hfz37_0
        try clear hfz37_1
        try clear hfz45_0
        try clear hfz45_1
        try clear p2
        try clear p6
        obtain ⟨x15_3, x16_3, rfl, rfl, HA, HK3, BK339, BK343, BK349, BK353, HB⟩ := hrel
        cases gk with
        | zero => exact absurd HA.out (by simp [turnoutlaw01_ValueBack.l0])
        | succ k3 =>
         have H := HA.out
         clear HA
         simp only [turnoutlaw01_ValueBack.l0] at H
         by_cases c46 : x16_3 ≤ 5
         ·
          rw [if_pos c46] at H
          have c46b0 : decide (x16_3 ≤ 5) = true := decide_eq_true c46
          clear c46
          replace H := Option.bind_eq_some_iff.mp H
          obtain ⟨⟨t354, t355⟩, A470, H⟩ := H
          replace H : (if x16_3 ≤ 3 then (turnoutlaw01_ValueBack.j3 k3 a1 a2 t340 x15_3 x16_3 t354 t355 true t341 t342 t350 t351) else (if x16_3 = 4 then (if a1 = 32 then (turnoutlaw01_ValueBack.j3 k3 a1 a2 t340 x15_3 x16_3 t354 t355 true t341 t342 t350 t351) else (if x16_3 = 5 then (if (Int.tmod a1 8) = 0 then (turnoutlaw01_ValueBack.j3 k3 a1 a2 t340 x15_3 x16_3 t354 t355 (decide (a1 > 8)) t341 t342 t350 t351) else (turnoutlaw01_ValueBack.j3 k3 a1 a2 t340 x15_3 x16_3 t354 t355 false t341 t342 t350 t351)) else (turnoutlaw01_ValueBack.j3 k3 a1 a2 t340 x15_3 x16_3 t354 t355 false t341 t342 t350 t351))) else (if x16_3 = 5 then (if (Int.tmod a1 8) = 0 then (turnoutlaw01_ValueBack.j3 k3 a1 a2 t340 x15_3 x16_3 t354 t355 (decide (a1 > 8)) t341 t342 t350 t351) else (turnoutlaw01_ValueBack.j3 k3 a1 a2 t340 x15_3 x16_3 t354 t355 false t341 t342 t350 t351)) else (turnoutlaw01_ValueBack.j3 k3 a1 a2 t340 x15_3 x16_3 t354 t355 false t341 t342 t350 t351)))) = some r := H
          have A47 := Aside0.mk A470
          clear A470
          have HC48 := Aside0.mk H
          clear H
          have hnb49 := NB343_339.out
          have hnc49 := NB339_343.out
          have hnb50 := NB343_349.out
          have hnc50 := NB349_343.out
          have hnb51 := NB343_353.out
          have hnc51 := NB353_343.out
          have hcz52_0 : wr.cell? ⟨gb343, 0, none⟩ = some (.int .u64 t341) := (blk_cell BK343.out 0).trans rfl
          have hcz52_1 : wr.cell? ⟨gb343, 1, none⟩ = some (.int .u64 t342) := (blk_cell BK343.out 1).trans rfl
          have hfz52_0 := blk_frozen BK343.out 0
          have hfz52_1 := blk_frozen BK343.out 1
          go_upto_region 15 with (first | ((with_reducible refine gate_callee (f := 9) rfl ?_); refine goesL_ (some 82) rfl rfl Tryd.func9 (by kernel_rfl) rfl #[.agg #[.int .u64 t341, .int .u64 t342], .int .i64 a1, .int .i64 x16_3] rfl (by (try simp only [List.map_toArray, List.map_cons, List.map_nil]); first | done | rfl | (simp only [List.length_drop, List.length_take]; rfl)) ?_; (with_reducible refine (value_Text.calls k3 t341 t342 a1 x16_3 t354 t355 _ ?side1 A47.out).mono ?_); (case side1 => exact GlobalsAt.below HG.out (by repeat (first | (with_reducible first | exact HB.out | apply below_alloc | apply pw_below_drewN | apply below_drew1 | refine below_set ?_ GE339.out | refine below_set ?_ GE343.out | refine below_set ?_ GE349.out | refine below_set ?_ GE353.out) | exact HB.out))); rintro e w53 ⟨rfl, hb⟩; refine ⟨_, rfl, ?_⟩; have n0_ := Aside0.mk (blk_below (g := gb339) (o := .cells #[.int .u64 a0_0, .int .u64 a0_1] 24 (0, 0)) (by (with_reducible repeat (first | refine blk_drewN ?_ _ | refine blk_drew ?_ | refine blk_alloc ?_ _)); exact BK339.out) hb); have n1_ := Aside0.mk (blk_below (g := gb343) (o := .cells #[.int .u64 t341, .int .u64 t342] 24 (0, 0)) (by (with_reducible repeat (first | refine blk_drewN ?_ _ | refine blk_drew ?_ | refine blk_alloc ?_ _)); exact BK343.out) hb); have n2_ := Aside0.mk (blk_below (g := gb349) (o := .cells #[.int .u64 t346, .int .u64 t347] 24 (0, 0)) (by (with_reducible repeat (first | refine blk_drewN ?_ _ | refine blk_drew ?_ | refine blk_alloc ?_ _)); exact BK349.out) hb); have n3_ := Aside0.mk (blk_below (g := gb353) (o := .cells #[.int .u64 t350, .int .u64 t351] 24 (0, 0)) (by (with_reducible repeat (first | refine blk_drewN ?_ _ | refine blk_drew ?_ | refine blk_alloc ?_ _)); exact BK353.out) hb); have n4_ := Aside0.mk (below_step (by repeat (first | (with_reducible first | exact HB.out | apply below_alloc | apply pw_below_drewN | apply below_drew1 | refine below_set ?_ GE339.out | refine below_set ?_ GE343.out | refine below_set ?_ GE349.out | refine below_set ?_ GE353.out) | exact HB.out)) hb); clear BK339; clear BK343; clear BK349; clear BK353; clear HB; have BK339 := n0_; have BK343 := n1_; have BK349 := n2_; have BK353 := n3_; have HB := n4_; clear n0_ n1_ n2_ n3_ n4_; (try clear hb); (try clear hb2); (try clear hk); (try clear hi)))
          (try simp only [Act.put, List.setIfInBounds_toArray, List.set_cons_zero, List.set_cons_succ])
          go_cut [19] (fun v19 wc => ∃ (kq : Nat) (x19_47 : Bool), v19 = .bool x19_47 ∧ Aside0 (turnoutlaw01_ValueBack.j3 kq a1 a2 t340 x15_3 x16_3 t354 t355 x19_47 t341 t342 t350 t351 = some r) ∧ Aside0 (kq ≤ k3) ∧ Aside0 (wc.heap[gb339]? = some (.cells #[.int .u64 a0_0, .int .u64 a0_1] 24 (0, 0))) ∧ Aside0 (wc.heap[gb343]? = some (.cells #[.int .u64 t341, .int .u64 t342] 24 (0, 0))) ∧ Aside0 (wc.heap[gb349]? = some (.cells #[.int .u64 t346, .int .u64 t347] 24 (0, 0))) ∧ Aside0 (wc.heap[gb353]? = some (.cells #[.int .u64 t350, .int .u64 t351] 24 (0, 0))) ∧ Aside0 (Below w.heap.size w wc))
          case first =>
           have H := HC48.out
           clear HC48
           by_cases c54 : x16_3 ≤ 3
           ·
            rw [if_pos c54] at H
            have c54b0 : decide (x16_3 ≤ 3) = true := decide_eq_true c54
            clear c54
            (first | rw [c54b0] | (simp only [i64_w, i32_w]; rw [c54b0]) | skip)
            have H' := Aside0.mk H
            clear H
            go_wp2
            go_meet
            case rel => exact ⟨_, (true), (by first | rfl | (simp; done) | (simp [*]; done)), H', ⟨by have := HJ4.out; have := HJ12.out; have := HK3.out; first | omega | exact Nat.le_refl _⟩, ⟨by (with_reducible repeat (first | refine blk_drewN ?_ _ | refine blk_drew ?_ | refine blk_alloc ?_ _)); exact BK339.out⟩, ⟨by (with_reducible repeat (first | refine blk_drewN ?_ _ | refine blk_drew ?_ | refine blk_alloc ?_ _)); exact BK343.out⟩, ⟨by (with_reducible repeat (first | refine blk_drewN ?_ _ | refine blk_drew ?_ | refine blk_alloc ?_ _)); exact BK349.out⟩, ⟨by (with_reducible repeat (first | refine blk_drewN ?_ _ | refine blk_drew ?_ | refine blk_alloc ?_ _)); exact BK353.out⟩, ⟨by repeat (first | (with_reducible first | exact HB.out | apply below_alloc | apply pw_below_drewN | apply below_drew1 | refine below_set ?_ GE339.out | refine below_set ?_ GE343.out | refine below_set ?_ GE349.out | refine below_set ?_ GE353.out) | exact HB.out)⟩⟩
           ·
            rw [if_neg c54] at H
            have c54b0 : decide (x16_3 ≤ 3) = false := decide_eq_false c54
            clear c54
            (first | rw [c54b0] | (simp only [i64_w, i32_w]; rw [c54b0]) | skip)
            by_cases c55 : x16_3 = 4
            ·
             rw [if_pos c55] at H
             have c55b0 : (x16_3 == 4) = true := beq_iff_eq.mpr c55
             have c55b1 : (x16_3 != 4) = false := bne_eq_false_iff_eq.mpr c55
             clear c55
             by_cases c56 : a1 = 32
             ·
              rw [if_pos c56] at H
              have c56b0 : (a1 == 32) = true := beq_iff_eq.mpr c56
              have c56b1 : (a1 != 32) = false := bne_eq_false_iff_eq.mpr c56
              clear c56
              have H' := Aside0.mk H
              clear H
              go_wp2
              go_meet
              case rel => exact ⟨_, (true), (by first | rfl | (simp; done) | (simp [*]; done)), H', ⟨by have := HJ4.out; have := HJ12.out; have := HK3.out; first | omega | exact Nat.le_refl _⟩, ⟨by (with_reducible repeat (first | refine blk_drewN ?_ _ | refine blk_drew ?_ | refine blk_alloc ?_ _)); exact BK339.out⟩, ⟨by (with_reducible repeat (first | refine blk_drewN ?_ _ | refine blk_drew ?_ | refine blk_alloc ?_ _)); exact BK343.out⟩, ⟨by (with_reducible repeat (first | refine blk_drewN ?_ _ | refine blk_drew ?_ | refine blk_alloc ?_ _)); exact BK349.out⟩, ⟨by (with_reducible repeat (first | refine blk_drewN ?_ _ | refine blk_drew ?_ | refine blk_alloc ?_ _)); exact BK353.out⟩, ⟨by repeat (first | (with_reducible first | exact HB.out | apply below_alloc | apply pw_below_drewN | apply below_drew1 | refine below_set ?_ GE339.out | refine below_set ?_ GE343.out | refine below_set ?_ GE349.out | refine below_set ?_ GE353.out) | exact HB.out)⟩⟩
             ·
              rw [if_neg c56] at H
              have c56b0 : (a1 == 32) = false := beq_eq_false_iff_ne.mpr c56
              have c56b1 : (a1 != 32) = true := bne_iff_ne.mpr c56
              by_cases c57 : x16_3 = 5
              ·
               rw [if_pos c57] at H
               have c57b0 : (x16_3 == 5) = true := beq_iff_eq.mpr c57
               have c57b1 : (x16_3 != 5) = false := bne_eq_false_iff_eq.mpr c57
               clear c57
               by_cases c58 : (Int.tmod a1 8) = 0
               ·
                rw [if_pos c58] at H
                have c58b0 : ((Int.tmod a1 8) == 0) = true := beq_iff_eq.mpr c58
                have c58b1 : ((Int.tmod a1 8) != 0) = false := bne_eq_false_iff_eq.mpr c58
                clear c58
                have H' := Aside0.mk H
                clear H
                go_wp2
                go_meet
                case rel => exact ⟨_, (decide (a1 > 8)), (by first | rfl | (simp; done) | (simp [*]; done)), H', ⟨by have := HJ4.out; have := HJ12.out; have := HK3.out; first | omega | exact Nat.le_refl _⟩, ⟨by (with_reducible repeat (first | refine blk_drewN ?_ _ | refine blk_drew ?_ | refine blk_alloc ?_ _)); exact BK339.out⟩, ⟨by (with_reducible repeat (first | refine blk_drewN ?_ _ | refine blk_drew ?_ | refine blk_alloc ?_ _)); exact BK343.out⟩, ⟨by (with_reducible repeat (first | refine blk_drewN ?_ _ | refine blk_drew ?_ | refine blk_alloc ?_ _)); exact BK349.out⟩, ⟨by (with_reducible repeat (first | refine blk_drewN ?_ _ | refine blk_drew ?_ | refine blk_alloc ?_ _)); exact BK353.out⟩, ⟨by repeat (first | (with_reducible first | exact HB.out | apply below_alloc | apply pw_below_drewN | apply below_drew1 | refine below_set ?_ GE339.out | refine below_set ?_ GE343.out | refine below_set ?_ GE349.out | refine below_set ?_ GE353.out) | exact HB.out)⟩⟩
               ·
                rw [if_neg c58] at H
                have c58b0 : ((Int.tmod a1 8) == 0) = false := beq_eq_false_iff_ne.mpr c58
                have c58b1 : ((Int.tmod a1 8) != 0) = true := bne_iff_ne.mpr c58
                have H' := Aside0.mk H
                clear H
                go_wp2
                go_meet
                case rel => exact ⟨_, (false), (by first | rfl | (simp; done) | (simp [*]; done)), H', ⟨by have := HJ4.out; have := HJ12.out; have := HK3.out; first | omega | exact Nat.le_refl _⟩, ⟨by (with_reducible repeat (first | refine blk_drewN ?_ _ | refine blk_drew ?_ | refine blk_alloc ?_ _)); exact BK339.out⟩, ⟨by (with_reducible repeat (first | refine blk_drewN ?_ _ | refine blk_drew ?_ | refine blk_alloc ?_ _)); exact BK343.out⟩, ⟨by (with_reducible repeat (first | refine blk_drewN ?_ _ | refine blk_drew ?_ | refine blk_alloc ?_ _)); exact BK349.out⟩, ⟨by (with_reducible repeat (first | refine blk_drewN ?_ _ | refine blk_drew ?_ | refine blk_alloc ?_ _)); exact BK353.out⟩, ⟨by repeat (first | (with_reducible first | exact HB.out | apply below_alloc | apply pw_below_drewN | apply below_drew1 | refine below_set ?_ GE339.out | refine below_set ?_ GE343.out | refine below_set ?_ GE349.out | refine below_set ?_ GE353.out) | exact HB.out)⟩⟩
              ·
               rw [if_neg c57] at H
               have c57b0 : (x16_3 == 5) = false := beq_eq_false_iff_ne.mpr c57
               have c57b1 : (x16_3 != 5) = true := bne_iff_ne.mpr c57
               have H' := Aside0.mk H
               clear H
               go_wp2
               go_meet
               case rel => exact ⟨_, (false), (by first | rfl | (simp; done) | (simp [*]; done)), H', ⟨by have := HJ4.out; have := HJ12.out; have := HK3.out; first | omega | exact Nat.le_refl _⟩, ⟨by (with_reducible repeat (first | refine blk_drewN ?_ _ | refine blk_drew ?_ | refine blk_alloc ?_ _)); exact BK339.out⟩, ⟨by (with_reducible repeat (first | refine blk_drewN ?_ _ | refine blk_drew ?_ | refine blk_alloc ?_ _)); exact BK343.out⟩, ⟨by (with_reducible repeat (first | refine blk_drewN ?_ _ | refine blk_drew ?_ | refine blk_alloc ?_ _)); exact BK349.out⟩, ⟨by (with_reducible repeat (first | refine blk_drewN ?_ _ | refine blk_drew ?_ | refine blk_alloc ?_ _)); exact BK353.out⟩, ⟨by repeat (first | (with_reducible first | exact HB.out | apply below_alloc | apply pw_below_drewN | apply below_drew1 | refine below_set ?_ GE339.out | refine below_set ?_ GE343.out | refine below_set ?_ GE349.out | refine below_set ?_ GE353.out) | exact HB.out)⟩⟩
            ·
             rw [if_neg c55] at H
             have c55b0 : (x16_3 == 4) = false := beq_eq_false_iff_ne.mpr c55
             have c55b1 : (x16_3 != 4) = true := bne_iff_ne.mpr c55
             by_cases c59 : x16_3 = 5
             ·
              rw [if_pos c59] at H
              have c59b0 : (x16_3 == 5) = true := beq_iff_eq.mpr c59
              have c59b1 : (x16_3 != 5) = false := bne_eq_false_iff_eq.mpr c59
              clear c59
              by_cases c60 : (Int.tmod a1 8) = 0
              ·
               rw [if_pos c60] at H
               have c60b0 : ((Int.tmod a1 8) == 0) = true := beq_iff_eq.mpr c60
               have c60b1 : ((Int.tmod a1 8) != 0) = false := bne_eq_false_iff_eq.mpr c60
               clear c60
               have H' := Aside0.mk H
               clear H
               go_wp2
               go_meet
               case rel => exact ⟨_, (decide (a1 > 8)), (by first | rfl | (simp; done) | (simp [*]; done)), H', ⟨by have := HJ4.out; have := HJ12.out; have := HK3.out; first | omega | exact Nat.le_refl _⟩, ⟨by (with_reducible repeat (first | refine blk_drewN ?_ _ | refine blk_drew ?_ | refine blk_alloc ?_ _)); exact BK339.out⟩, ⟨by (with_reducible repeat (first | refine blk_drewN ?_ _ | refine blk_drew ?_ | refine blk_alloc ?_ _)); exact BK343.out⟩, ⟨by (with_reducible repeat (first | refine blk_drewN ?_ _ | refine blk_drew ?_ | refine blk_alloc ?_ _)); exact BK349.out⟩, ⟨by (with_reducible repeat (first | refine blk_drewN ?_ _ | refine blk_drew ?_ | refine blk_alloc ?_ _)); exact BK353.out⟩, ⟨by repeat (first | (with_reducible first | exact HB.out | apply below_alloc | apply pw_below_drewN | apply below_drew1 | refine below_set ?_ GE339.out | refine below_set ?_ GE343.out | refine below_set ?_ GE349.out | refine below_set ?_ GE353.out) | exact HB.out)⟩⟩
              ·
               rw [if_neg c60] at H
               have c60b0 : ((Int.tmod a1 8) == 0) = false := beq_eq_false_iff_ne.mpr c60
               have c60b1 : ((Int.tmod a1 8) != 0) = true := bne_iff_ne.mpr c60
               have H' := Aside0.mk H
               clear H
               go_wp2
               go_meet
               case rel => exact ⟨_, (false), (by first | rfl | (simp; done) | (simp [*]; done)), H', ⟨by have := HJ4.out; have := HJ12.out; have := HK3.out; first | omega | exact Nat.le_refl _⟩, ⟨by (with_reducible repeat (first | refine blk_drewN ?_ _ | refine blk_drew ?_ | refine blk_alloc ?_ _)); exact BK339.out⟩, ⟨by (with_reducible repeat (first | refine blk_drewN ?_ _ | refine blk_drew ?_ | refine blk_alloc ?_ _)); exact BK343.out⟩, ⟨by (with_reducible repeat (first | refine blk_drewN ?_ _ | refine blk_drew ?_ | refine blk_alloc ?_ _)); exact BK349.out⟩, ⟨by (with_reducible repeat (first | refine blk_drewN ?_ _ | refine blk_drew ?_ | refine blk_alloc ?_ _)); exact BK353.out⟩, ⟨by repeat (first | (with_reducible first | exact HB.out | apply below_alloc | apply pw_below_drewN | apply below_drew1 | refine below_set ?_ GE339.out | refine below_set ?_ GE343.out | refine below_set ?_ GE349.out | refine below_set ?_ GE353.out) | exact HB.out)⟩⟩
             ·
              rw [if_neg c59] at H
              have c59b0 : (x16_3 == 5) = false := beq_eq_false_iff_ne.mpr c59
              have c59b1 : (x16_3 != 5) = true := bne_iff_ne.mpr c59
              have H' := Aside0.mk H
              clear H
              go_wp2
              go_meet
              case rel => exact ⟨_, (false), (by first | rfl | (simp; done) | (simp [*]; done)), H', ⟨by have := HJ4.out; have := HJ12.out; have := HK3.out; first | omega | exact Nat.le_refl _⟩, ⟨by (with_reducible repeat (first | refine blk_drewN ?_ _ | refine blk_drew ?_ | refine blk_alloc ?_ _)); exact BK339.out⟩, ⟨by (with_reducible repeat (first | refine blk_drewN ?_ _ | refine blk_drew ?_ | refine blk_alloc ?_ _)); exact BK343.out⟩, ⟨by (with_reducible repeat (first | refine blk_drewN ?_ _ | refine blk_drew ?_ | refine blk_alloc ?_ _)); exact BK349.out⟩, ⟨by (with_reducible repeat (first | refine blk_drewN ?_ _ | refine blk_drew ?_ | refine blk_alloc ?_ _)); exact BK353.out⟩, ⟨by repeat (first | (with_reducible first | exact HB.out | apply below_alloc | apply pw_below_drewN | apply below_drew1 | refine below_set ?_ GE339.out | refine below_set ?_ GE343.out | refine below_set ?_ GE349.out | refine below_set ?_ GE353.out) | exact HB.out)⟩⟩
          case rest =>
           clear HC48
           try clear c1
           try clear c2
           try clear p2
           try clear c3
           try clear c4
           try clear c5
           try clear c6
           try clear p6
           try clear c8
           try clear c8b0
           try clear c9
           try clear c10
           try clear c13
           try clear c14
           try clear c15
           try clear c17
           try clear c22
           try clear c23
           try clear c25
           try clear c25b0
           try clear c25b1
           try clear c26
           try clear c26b0
           try clear c26b1
           try clear c27
           try clear c27b0
           try clear c28
           try clear c29
           try clear c31
           try clear c33
           try clear c34
           try clear c36
           try clear c38
           try clear c42
           try clear c43
           try clear c44
           try clear c46
           try clear c46b0
           try clear c49
           try clear c50
           try clear c51
           try clear c54
           try clear c54b0
           try clear c55
           try clear c55b0
           try clear c55b1
           try clear c56
           try clear c56b0
           try clear c56b1
           try clear c57
           try clear c57b0
           try clear c57b1
           try clear c58
           try clear c58b0
           try clear c58b1
           try clear c59
           try clear c59b0
           try clear c59b1
           try clear c60
           try clear c60b0
           try clear c60b1
           try clear hcz14_0
           try clear hcz14_1
           try clear hcz18_0
           try clear hcz18_1
           try clear hcz24_0
           try clear hcz24_1
           try clear hcz30_0
           try clear hcz30_1
           try clear hcz32_0
           try clear hcz32_1
           try clear hcz35_0
           try clear hcz35_1
           try clear hcz37_0
           try clear hcz37_1
           try clear hcz45_0
           try clear hcz45_1
           try clear hcz52_0
           try clear hcz52_1
           try clear hfz14_0
           try clear hfz14_1
           try clear hfz18_0
           try clear hfz18_1
           try clear hfz24_0
           try clear hfz24_1
           try clear hfz30_0
           try clear hfz30_1
           try clear hfz32_0
           try clear hfz32_1
           try clear hfz35_0
           try clear hfz35_1
           try clear hfz37_0
           try clear hfz37_1
           try clear hfz45_0
           try clear hfz45_1
           try clear hfz52_0
           try clear hfz52_1
           try clear p2
           try clear p6
           obtain ⟨kq, x19_47, rfl, HA, HJ47, BK339, BK343, BK349, BK353, HB⟩ := hcut
           cases kq with
           | zero => exact absurd HA.out (by simp [turnoutlaw01_ValueBack.j3])
           | succ kj47 =>
            have H := HA.out
            clear HA
            simp only [turnoutlaw01_ValueBack.j3] at H
            by_cases c61 : (x19_47 != (t355 == 0)) = true
            ·
             rw [if_pos c61] at H
             have c61b0 : (x19_47 != (t355 == 0)) = true := c61
             (try (have c61b1 : decide (x19_47 = (t355 == 0)) = false := by simpa using c61))
             (try (have c61b2 : (x19_47 == (t355 == 0)) = false := by simpa using c61))
             (try (have c61b3 : ¬ (x19_47 = (t355 == 0)) := by simpa using c61))
             clear c61
             exact absurd ((Option.some.inj H).trans hrt.out) (by decide)
            ·
             rw [if_neg c61] at H
             have c61b0 : (x19_47 != (t355 == 0)) = false := by simpa using c61
             (try (have c61b1 : decide (x19_47 = (t355 == 0)) = true := by simpa using c61))
             (try (have c61b2 : (x19_47 == (t355 == 0)) = true := by simpa using c61))
             clear c61
             by_cases c62 : x19_47 = true
             ·
              subst c62
              have H1 : ((value_Parse.f kj47 t354 a1).bind fun bt356 => (if (!(bt356.1 == t341) || (!(bt356.2.1 == t342))) = true then (some false) else (if bt356.2.2 = 0 then ((value_Text.f kj47 t350 t351 a1 x16_3).bind fun bt360 => (if x15_3 = true then (turnoutlaw01_ValueBack.l0 kj47 a1 a2 t340 true (wrap64 (x16_3 + 1)) t341 t342 t350 t351) else (turnoutlaw01_ValueBack.l0 kj47 a1 a2 t340 (bt360.1.toList == a2.toList) (wrap64 (x16_3 + 1)) t341 t342 t350 t351))) else (some false)))) = some r := by rw [if_pos rfl] at H; exact H
              clear H
              have H := H1
              clear H1
              replace H := Option.bind_eq_some_iff.mp H
              obtain ⟨⟨t356, t357, t358⟩, A630, H⟩ := H
              replace H : (if (!(t356 == t341) || (!(t357 == t342))) = true then (some false) else (if t358 = 0 then ((value_Text.f kj47 t350 t351 a1 x16_3).bind fun bt360 => (if x15_3 = true then (turnoutlaw01_ValueBack.l0 kj47 a1 a2 t340 true (wrap64 (x16_3 + 1)) t341 t342 t350 t351) else (turnoutlaw01_ValueBack.l0 kj47 a1 a2 t340 (bt360.1.toList == a2.toList) (wrap64 (x16_3 + 1)) t341 t342 t350 t351))) else (some false))) = some r := H
              have A63 := Aside0.mk A630
              clear A630
              by_cases c64 : (!(t356 == t341) || (!(t357 == t342))) = true
              ·
               rw [if_pos c64] at H
               have c64b0 : (!(t356 == t341) || (!(t357 == t342))) = true := c64
               clear c64
               exact absurd ((Option.some.inj H).trans hrt.out) (by decide)
              ·
               rw [if_neg c64] at H
               have c64b0 : (!(t356 == t341) || (!(t357 == t342))) = false := by simpa using c64
               clear c64
               by_cases c65 : t358 = 0
               ·
                rw [if_pos c65] at H
                have c65b0 : (t358 == 0) = true := beq_iff_eq.mpr c65
                have c65b1 : (t358 != 0) = false := bne_eq_false_iff_eq.mpr c65
                clear c65
                replace H := Option.bind_eq_some_iff.mp H
                obtain ⟨⟨t360, t361⟩, A660, H⟩ := H
                replace H : (if x15_3 = true then (turnoutlaw01_ValueBack.l0 kj47 a1 a2 t340 true (wrap64 (x16_3 + 1)) t341 t342 t350 t351) else (turnoutlaw01_ValueBack.l0 kj47 a1 a2 t340 (t360.toList == a2.toList) (wrap64 (x16_3 + 1)) t341 t342 t350 t351)) = some r := H
                have A66 := Aside0.mk A660
                clear A660
                by_cases c67 : x15_3 = true
                ·
                 subst c67
                 have H1 : (turnoutlaw01_ValueBack.l0 kj47 a1 a2 t340 true (wrap64 (x16_3 + 1)) t341 t342 t350 t351) = some r := by rw [if_pos rfl] at H; exact H
                 clear H
                 have H := H1
                 clear H1
                 have H' := Aside0.mk H
                 clear H
                 go_wp2_with (first | ((with_reducible refine gate_callee (f := 10) rfl ?_); refine goesL_ (some 116) rfl rfl Tryd.func10 (by kernel_rfl) rfl #[.string t354, .int .i64 a1] rfl (by (try simp only [List.map_toArray, List.map_cons, List.map_nil]); first | done | rfl | (simp only [List.length_drop, List.length_take]; rfl)) ?_; (with_reducible refine (value_Parse.calls kj47 t354 a1 t356 t357 t358 _ A63.out).mono ?_); rintro e w68 ⟨rfl, hb⟩; refine ⟨_, rfl, ?_⟩; have n0_ := Aside0.mk (blk_below (g := gb339) (o := .cells #[.int .u64 a0_0, .int .u64 a0_1] 24 (0, 0)) (by (with_reducible repeat (first | refine blk_drewN ?_ _ | refine blk_drew ?_ | refine blk_alloc ?_ _)); exact BK339.out) hb); have n1_ := Aside0.mk (blk_below (g := gb343) (o := .cells #[.int .u64 t341, .int .u64 t342] 24 (0, 0)) (by (with_reducible repeat (first | refine blk_drewN ?_ _ | refine blk_drew ?_ | refine blk_alloc ?_ _)); exact BK343.out) hb); have n2_ := Aside0.mk (blk_below (g := gb349) (o := .cells #[.int .u64 t346, .int .u64 t347] 24 (0, 0)) (by (with_reducible repeat (first | refine blk_drewN ?_ _ | refine blk_drew ?_ | refine blk_alloc ?_ _)); exact BK349.out) hb); have n3_ := Aside0.mk (blk_below (g := gb353) (o := .cells #[.int .u64 t350, .int .u64 t351] 24 (0, 0)) (by (with_reducible repeat (first | refine blk_drewN ?_ _ | refine blk_drew ?_ | refine blk_alloc ?_ _)); exact BK353.out) hb); have n4_ := Aside0.mk (below_step (by repeat (first | (with_reducible first | exact HB.out | apply below_alloc | apply pw_below_drewN | apply below_drew1 | refine below_set ?_ GE339.out | refine below_set ?_ GE343.out | refine below_set ?_ GE349.out | refine below_set ?_ GE353.out) | exact HB.out)) hb); clear BK339; clear BK343; clear BK349; clear BK353; clear HB; have BK339 := n0_; have BK343 := n1_; have BK349 := n2_; have BK353 := n3_; have HB := n4_; clear n0_ n1_ n2_ n3_ n4_; (try clear hb); (try clear hb2); (try clear hk); (try clear hi)) | ((with_reducible refine gate_dst (N := 20) rfl ?_); (try (refine gate_guard (by rfl) ?_; dsimp only)); refine box_event ?hg (N := 20) ?hd (cs := #[.int .u64 0, .int .u64 0]) (t := 24) ?hr ?_; (case hd => rfl); (case hg => rfl); (case hr => first | (go_simp; done) | (go_simp; rfl)); intro gb359 hg w69 hbox hb; have n0_ := Aside0.mk (blk_below (g := gb339) (o := .cells #[.int .u64 a0_0, .int .u64 a0_1] 24 (0, 0)) (by (with_reducible repeat (first | refine blk_drewN ?_ _ | refine blk_drew ?_ | refine blk_alloc ?_ _)); exact BK339.out) hb); have n1_ := Aside0.mk (blk_below (g := gb343) (o := .cells #[.int .u64 t341, .int .u64 t342] 24 (0, 0)) (by (with_reducible repeat (first | refine blk_drewN ?_ _ | refine blk_drew ?_ | refine blk_alloc ?_ _)); exact BK343.out) hb); have n2_ := Aside0.mk (blk_below (g := gb349) (o := .cells #[.int .u64 t346, .int .u64 t347] 24 (0, 0)) (by (with_reducible repeat (first | refine blk_drewN ?_ _ | refine blk_drew ?_ | refine blk_alloc ?_ _)); exact BK349.out) hb); have n3_ := Aside0.mk (blk_below (g := gb353) (o := .cells #[.int .u64 t350, .int .u64 t351] 24 (0, 0)) (by (with_reducible repeat (first | refine blk_drewN ?_ _ | refine blk_drew ?_ | refine blk_alloc ?_ _)); exact BK353.out) hb); have n4_ := Aside0.mk (below_step (by repeat (first | (with_reducible first | exact HB.out | apply below_alloc | apply pw_below_drewN | apply below_drew1 | refine below_set ?_ GE339.out | refine below_set ?_ GE343.out | refine below_set ?_ GE349.out | refine below_set ?_ GE353.out) | exact HB.out)) hb); have n5_ := Aside0.mk (hbox); have n6_ := Aside0.mk ((by rw [hg]; exact (below_size (by repeat (first | (with_reducible first | exact HB.out | apply below_alloc | apply pw_below_drewN | apply below_drew1 | refine below_set ?_ GE339.out | refine below_set ?_ GE343.out | refine below_set ?_ GE349.out | refine below_set ?_ GE353.out) | exact HB.out))) : w.heap.size ≤ gb359)); have n7_ := Aside0.mk ((by rw [hg]; exact (below_size (by repeat (first | (with_reducible first | exact HB.out | apply below_alloc | apply pw_below_drewN | apply below_drew1 | refine below_set ?_ GE339.out | refine below_set ?_ GE343.out | refine below_set ?_ GE349.out | refine below_set ?_ GE353.out) | exact HB.out))) : w.heap.size ≤ gb359)); have n8_ := Aside0.mk ((by rw [hg]; exact Nat.ne_of_lt (blk_lt (g := gb339) (o := .cells #[.int .u64 a0_0, .int .u64 a0_1] 24 (0, 0)) (by (with_reducible repeat (first | refine blk_drewN ?_ _ | refine blk_drew ?_ | refine blk_alloc ?_ _)); exact BK339.out)) : gb339 ≠ gb359)); have n9_ := Aside0.mk ((by rw [hg]; exact Nat.ne_of_gt (blk_lt (g := gb339) (o := .cells #[.int .u64 a0_0, .int .u64 a0_1] 24 (0, 0)) (by (with_reducible repeat (first | refine blk_drewN ?_ _ | refine blk_drew ?_ | refine blk_alloc ?_ _)); exact BK339.out)) : gb359 ≠ gb339)); have n10_ := Aside0.mk ((by rw [hg]; exact Nat.ne_of_lt (blk_lt (g := gb343) (o := .cells #[.int .u64 t341, .int .u64 t342] 24 (0, 0)) (by (with_reducible repeat (first | refine blk_drewN ?_ _ | refine blk_drew ?_ | refine blk_alloc ?_ _)); exact BK343.out)) : gb343 ≠ gb359)); have n11_ := Aside0.mk ((by rw [hg]; exact Nat.ne_of_gt (blk_lt (g := gb343) (o := .cells #[.int .u64 t341, .int .u64 t342] 24 (0, 0)) (by (with_reducible repeat (first | refine blk_drewN ?_ _ | refine blk_drew ?_ | refine blk_alloc ?_ _)); exact BK343.out)) : gb359 ≠ gb343)); have n12_ := Aside0.mk ((by rw [hg]; exact Nat.ne_of_lt (blk_lt (g := gb349) (o := .cells #[.int .u64 t346, .int .u64 t347] 24 (0, 0)) (by (with_reducible repeat (first | refine blk_drewN ?_ _ | refine blk_drew ?_ | refine blk_alloc ?_ _)); exact BK349.out)) : gb349 ≠ gb359)); have n13_ := Aside0.mk ((by rw [hg]; exact Nat.ne_of_gt (blk_lt (g := gb349) (o := .cells #[.int .u64 t346, .int .u64 t347] 24 (0, 0)) (by (with_reducible repeat (first | refine blk_drewN ?_ _ | refine blk_drew ?_ | refine blk_alloc ?_ _)); exact BK349.out)) : gb359 ≠ gb349)); have n14_ := Aside0.mk ((by rw [hg]; exact Nat.ne_of_lt (blk_lt (g := gb353) (o := .cells #[.int .u64 t350, .int .u64 t351] 24 (0, 0)) (by (with_reducible repeat (first | refine blk_drewN ?_ _ | refine blk_drew ?_ | refine blk_alloc ?_ _)); exact BK353.out)) : gb353 ≠ gb359)); have n15_ := Aside0.mk ((by rw [hg]; exact Nat.ne_of_gt (blk_lt (g := gb353) (o := .cells #[.int .u64 t350, .int .u64 t351] 24 (0, 0)) (by (with_reducible repeat (first | refine blk_drewN ?_ _ | refine blk_drew ?_ | refine blk_alloc ?_ _)); exact BK353.out)) : gb359 ≠ gb353)); clear BK339; clear BK343; clear BK349; clear BK353; clear HB; have BK339 := n0_; have BK343 := n1_; have BK349 := n2_; have BK353 := n3_; have HB := n4_; have BK359 := n5_; have GW359 := n6_; have GE359 := n7_; have NB339_359 := n8_; have NB359_339 := n9_; have NB343_359 := n10_; have NB359_343 := n11_; have NB349_359 := n12_; have NB359_349 := n13_; have NB353_359 := n14_; have NB359_353 := n15_; clear n0_ n1_ n2_ n3_ n4_ n5_ n6_ n7_ n8_ n9_ n10_ n11_ n12_ n13_ n14_ n15_; clear hb hbox hg; have hnb70 := NB359_339.out; have hnc70 := NB339_359.out; have hnb71 := NB359_343.out; have hnc71 := NB343_359.out; have hnb72 := NB359_349.out; have hnc72 := NB349_359.out; have hnb73 := NB359_353.out; have hnc73 := NB353_359.out; have hcz74_0 : w69.cell? ⟨gb359, 0, none⟩ = some (.int .u64 0) := (blk_cell BK359.out 0).trans rfl; have hcz74_1 : w69.cell? ⟨gb359, 1, none⟩ = some (.int .u64 0) := (blk_cell BK359.out 1).trans rfl; have hfz74_0 := blk_frozen BK359.out 0; have hfz74_1 := blk_frozen BK359.out 1; have hnb75 := NB343_339.out; have hnc75 := NB339_343.out; have hnb76 := NB343_349.out; have hnc76 := NB349_343.out; have hnb77 := NB343_353.out; have hnc77 := NB353_343.out; have hcz78_0 : w69.cell? ⟨gb343, 0, none⟩ = some (.int .u64 t341) := (blk_cell BK343.out 0).trans rfl; have hcz78_1 : w69.cell? ⟨gb343, 1, none⟩ = some (.int .u64 t342) := (blk_cell BK343.out 1).trans rfl; have hfz78_0 := blk_frozen BK343.out 0; have hfz78_1 := blk_frozen BK343.out 1; have hnb79 := NB353_339.out; have hnc79 := NB339_353.out; have hnb80 := NB353_349.out; have hnc80 := NB349_353.out; have hcz81_0 : w69.cell? ⟨gb353, 0, none⟩ = some (.int .u64 t350) := (blk_cell BK353.out 0).trans rfl; have hcz81_1 : w69.cell? ⟨gb353, 1, none⟩ = some (.int .u64 t351) := (blk_cell BK353.out 1).trans rfl; have hfz81_0 := blk_frozen BK353.out 0; have hfz81_1 := blk_frozen BK353.out 1) | ((with_reducible refine gate_callee (f := 9) rfl ?_); refine goesL_ (some 130) rfl rfl Tryd.func9 (by kernel_rfl) rfl #[.agg #[.int .u64 t350, .int .u64 t351], .int .i64 a1, .int .i64 x16_3] rfl (by (try simp only [List.map_toArray, List.map_cons, List.map_nil]); first | done | rfl | (simp only [List.length_drop, List.length_take]; rfl)) ?_; (with_reducible refine (value_Text.calls kj47 t350 t351 a1 x16_3 t360 t361 _ ?side1 A66.out).mono ?_); (case side1 => exact GlobalsAt.below HG.out (by repeat (first | (with_reducible first | exact HB.out | apply below_alloc | apply pw_below_drewN | apply below_drew1 | refine below_set ?_ GE339.out | refine below_set ?_ GE343.out | refine below_set ?_ GE349.out | refine below_set ?_ GE353.out | refine below_set ?_ GE359.out) | exact HB.out))); rintro e w82 ⟨rfl, hb⟩; refine ⟨_, rfl, ?_⟩; have n0_ := Aside0.mk (blk_below (g := gb339) (o := .cells #[.int .u64 a0_0, .int .u64 a0_1] 24 (0, 0)) (by (with_reducible repeat (first | refine blk_drewN ?_ _ | refine blk_drew ?_ | refine blk_alloc ?_ _)); refine blk_far ?_ NB339_359.out _; (with_reducible repeat (first | refine blk_drewN ?_ _ | refine blk_drew ?_ | refine blk_alloc ?_ _)); refine blk_far ?_ NB339_359.out _; (with_reducible repeat (first | refine blk_drewN ?_ _ | refine blk_drew ?_ | refine blk_alloc ?_ _)); exact BK339.out) hb); have n1_ := Aside0.mk (blk_below (g := gb343) (o := .cells #[.int .u64 t341, .int .u64 t342] 24 (0, 0)) (by (with_reducible repeat (first | refine blk_drewN ?_ _ | refine blk_drew ?_ | refine blk_alloc ?_ _)); refine blk_far ?_ NB343_359.out _; (with_reducible repeat (first | refine blk_drewN ?_ _ | refine blk_drew ?_ | refine blk_alloc ?_ _)); refine blk_far ?_ NB343_359.out _; (with_reducible repeat (first | refine blk_drewN ?_ _ | refine blk_drew ?_ | refine blk_alloc ?_ _)); exact BK343.out) hb); have n2_ := Aside0.mk (blk_below (g := gb349) (o := .cells #[.int .u64 t346, .int .u64 t347] 24 (0, 0)) (by (with_reducible repeat (first | refine blk_drewN ?_ _ | refine blk_drew ?_ | refine blk_alloc ?_ _)); refine blk_far ?_ NB349_359.out _; (with_reducible repeat (first | refine blk_drewN ?_ _ | refine blk_drew ?_ | refine blk_alloc ?_ _)); refine blk_far ?_ NB349_359.out _; (with_reducible repeat (first | refine blk_drewN ?_ _ | refine blk_drew ?_ | refine blk_alloc ?_ _)); exact BK349.out) hb); have n3_ := Aside0.mk (blk_below (g := gb353) (o := .cells #[.int .u64 t350, .int .u64 t351] 24 (0, 0)) (by (with_reducible repeat (first | refine blk_drewN ?_ _ | refine blk_drew ?_ | refine blk_alloc ?_ _)); refine blk_far ?_ NB353_359.out _; (with_reducible repeat (first | refine blk_drewN ?_ _ | refine blk_drew ?_ | refine blk_alloc ?_ _)); refine blk_far ?_ NB353_359.out _; (with_reducible repeat (first | refine blk_drewN ?_ _ | refine blk_drew ?_ | refine blk_alloc ?_ _)); exact BK353.out) hb); have n4_ := Aside0.mk (blk_below (g := gb359) (o := .cells #[.int .u64 t356, .int .u64 t357] 24 (0, 0)) (by (with_reducible repeat (first | refine blk_drewN ?_ _ | refine blk_drew ?_ | refine blk_alloc ?_ _)); refine blk_put (cs := #[.int .u64 t356, .int .u64 0]) ?_ 1 _ rfl; (with_reducible repeat (first | refine blk_drewN ?_ _ | refine blk_drew ?_ | refine blk_alloc ?_ _)); refine blk_put (cs := #[.int .u64 0, .int .u64 0]) ?_ 0 _ rfl; (with_reducible repeat (first | refine blk_drewN ?_ _ | refine blk_drew ?_ | refine blk_alloc ?_ _)); exact BK359.out) hb); have n5_ := Aside0.mk (below_step (by repeat (first | (with_reducible first | exact HB.out | apply below_alloc | apply pw_below_drewN | apply below_drew1 | refine below_set ?_ GE339.out | refine below_set ?_ GE343.out | refine below_set ?_ GE349.out | refine below_set ?_ GE353.out | refine below_set ?_ GE359.out) | exact HB.out)) hb); clear BK339; clear BK343; clear BK349; clear BK353; clear BK359; clear HB; have BK339 := n0_; have BK343 := n1_; have BK349 := n2_; have BK353 := n3_; have BK359 := n4_; have HB := n5_; clear n0_ n1_ n2_ n3_ n4_ n5_; (try clear hb); (try clear hb2); (try clear hk); (try clear hi)))
                 go_roundg kj47
                 case measure => have := HJ4.out; have := HJ12.out; have := HK3.out; have := HJ47.out; omega
                 case rel => exact ⟨(true), (wrap64 (x16_3 + 1)), (by first | rfl | (simp; done) | (simp [*]; done)), (by first | rfl | (simp; done) | (simp [*]; done)), H', ⟨by have := HJ4.out; have := HJ12.out; have := HK3.out; have := HJ47.out; omega⟩, ⟨by (with_reducible repeat (first | refine blk_drewN ?_ _ | refine blk_drew ?_ | refine blk_alloc ?_ _)); exact BK339.out⟩, ⟨by (with_reducible repeat (first | refine blk_drewN ?_ _ | refine blk_drew ?_ | refine blk_alloc ?_ _)); exact BK343.out⟩, ⟨by (with_reducible repeat (first | refine blk_drewN ?_ _ | refine blk_drew ?_ | refine blk_alloc ?_ _)); exact BK349.out⟩, ⟨by (with_reducible repeat (first | refine blk_drewN ?_ _ | refine blk_drew ?_ | refine blk_alloc ?_ _)); exact BK353.out⟩, ⟨by repeat (first | (with_reducible first | exact HB.out | apply below_alloc | apply pw_below_drewN | apply below_drew1 | refine below_set ?_ GE339.out | refine below_set ?_ GE343.out | refine below_set ?_ GE349.out | refine below_set ?_ GE353.out | refine below_set ?_ GE359.out) | exact HB.out)⟩⟩
                ·
                 replace c67 := Bool.eq_false_iff.mpr c67
                 subst c67
                 have H1 : (turnoutlaw01_ValueBack.l0 kj47 a1 a2 t340 (t360.toList == a2.toList) (wrap64 (x16_3 + 1)) t341 t342 t350 t351) = some r := by rw [if_neg (show ¬ (false = true) by decide)] at H; exact H
                 clear H
                 have H := H1
                 clear H1
                 have H' := Aside0.mk H
                 clear H
                 go_wp2_with (first | ((with_reducible refine gate_callee (f := 10) rfl ?_); refine goesL_ (some 116) rfl rfl Tryd.func10 (by kernel_rfl) rfl #[.string t354, .int .i64 a1] rfl (by (try simp only [List.map_toArray, List.map_cons, List.map_nil]); first | done | rfl | (simp only [List.length_drop, List.length_take]; rfl)) ?_; (with_reducible refine (value_Parse.calls kj47 t354 a1 t356 t357 t358 _ A63.out).mono ?_); rintro e w83 ⟨rfl, hb⟩; refine ⟨_, rfl, ?_⟩; have n0_ := Aside0.mk (blk_below (g := gb339) (o := .cells #[.int .u64 a0_0, .int .u64 a0_1] 24 (0, 0)) (by (with_reducible repeat (first | refine blk_drewN ?_ _ | refine blk_drew ?_ | refine blk_alloc ?_ _)); exact BK339.out) hb); have n1_ := Aside0.mk (blk_below (g := gb343) (o := .cells #[.int .u64 t341, .int .u64 t342] 24 (0, 0)) (by (with_reducible repeat (first | refine blk_drewN ?_ _ | refine blk_drew ?_ | refine blk_alloc ?_ _)); exact BK343.out) hb); have n2_ := Aside0.mk (blk_below (g := gb349) (o := .cells #[.int .u64 t346, .int .u64 t347] 24 (0, 0)) (by (with_reducible repeat (first | refine blk_drewN ?_ _ | refine blk_drew ?_ | refine blk_alloc ?_ _)); exact BK349.out) hb); have n3_ := Aside0.mk (blk_below (g := gb353) (o := .cells #[.int .u64 t350, .int .u64 t351] 24 (0, 0)) (by (with_reducible repeat (first | refine blk_drewN ?_ _ | refine blk_drew ?_ | refine blk_alloc ?_ _)); exact BK353.out) hb); have n4_ := Aside0.mk (below_step (by repeat (first | (with_reducible first | exact HB.out | apply below_alloc | apply pw_below_drewN | apply below_drew1 | refine below_set ?_ GE339.out | refine below_set ?_ GE343.out | refine below_set ?_ GE349.out | refine below_set ?_ GE353.out) | exact HB.out)) hb); clear BK339; clear BK343; clear BK349; clear BK353; clear HB; have BK339 := n0_; have BK343 := n1_; have BK349 := n2_; have BK353 := n3_; have HB := n4_; clear n0_ n1_ n2_ n3_ n4_; (try clear hb); (try clear hb2); (try clear hk); (try clear hi)) | ((with_reducible refine gate_dst (N := 20) rfl ?_); (try (refine gate_guard (by rfl) ?_; dsimp only)); refine box_event ?hg (N := 20) ?hd (cs := #[.int .u64 0, .int .u64 0]) (t := 24) ?hr ?_; (case hd => rfl); (case hg => rfl); (case hr => first | (go_simp; done) | (go_simp; rfl)); intro gb359 hg w84 hbox hb; have n0_ := Aside0.mk (blk_below (g := gb339) (o := .cells #[.int .u64 a0_0, .int .u64 a0_1] 24 (0, 0)) (by (with_reducible repeat (first | refine blk_drewN ?_ _ | refine blk_drew ?_ | refine blk_alloc ?_ _)); exact BK339.out) hb); have n1_ := Aside0.mk (blk_below (g := gb343) (o := .cells #[.int .u64 t341, .int .u64 t342] 24 (0, 0)) (by (with_reducible repeat (first | refine blk_drewN ?_ _ | refine blk_drew ?_ | refine blk_alloc ?_ _)); exact BK343.out) hb); have n2_ := Aside0.mk (blk_below (g := gb349) (o := .cells #[.int .u64 t346, .int .u64 t347] 24 (0, 0)) (by (with_reducible repeat (first | refine blk_drewN ?_ _ | refine blk_drew ?_ | refine blk_alloc ?_ _)); exact BK349.out) hb); have n3_ := Aside0.mk (blk_below (g := gb353) (o := .cells #[.int .u64 t350, .int .u64 t351] 24 (0, 0)) (by (with_reducible repeat (first | refine blk_drewN ?_ _ | refine blk_drew ?_ | refine blk_alloc ?_ _)); exact BK353.out) hb); have n4_ := Aside0.mk (below_step (by repeat (first | (with_reducible first | exact HB.out | apply below_alloc | apply pw_below_drewN | apply below_drew1 | refine below_set ?_ GE339.out | refine below_set ?_ GE343.out | refine below_set ?_ GE349.out | refine below_set ?_ GE353.out) | exact HB.out)) hb); have n5_ := Aside0.mk (hbox); have n6_ := Aside0.mk ((by rw [hg]; exact (below_size (by repeat (first | (with_reducible first | exact HB.out | apply below_alloc | apply pw_below_drewN | apply below_drew1 | refine below_set ?_ GE339.out | refine below_set ?_ GE343.out | refine below_set ?_ GE349.out | refine below_set ?_ GE353.out) | exact HB.out))) : w.heap.size ≤ gb359)); have n7_ := Aside0.mk ((by rw [hg]; exact (below_size (by repeat (first | (with_reducible first | exact HB.out | apply below_alloc | apply pw_below_drewN | apply below_drew1 | refine below_set ?_ GE339.out | refine below_set ?_ GE343.out | refine below_set ?_ GE349.out | refine below_set ?_ GE353.out) | exact HB.out))) : w.heap.size ≤ gb359)); have n8_ := Aside0.mk ((by rw [hg]; exact Nat.ne_of_lt (blk_lt (g := gb339) (o := .cells #[.int .u64 a0_0, .int .u64 a0_1] 24 (0, 0)) (by (with_reducible repeat (first | refine blk_drewN ?_ _ | refine blk_drew ?_ | refine blk_alloc ?_ _)); exact BK339.out)) : gb339 ≠ gb359)); have n9_ := Aside0.mk ((by rw [hg]; exact Nat.ne_of_gt (blk_lt (g := gb339) (o := .cells #[.int .u64 a0_0, .int .u64 a0_1] 24 (0, 0)) (by (with_reducible repeat (first | refine blk_drewN ?_ _ | refine blk_drew ?_ | refine blk_alloc ?_ _)); exact BK339.out)) : gb359 ≠ gb339)); have n10_ := Aside0.mk ((by rw [hg]; exact Nat.ne_of_lt (blk_lt (g := gb343) (o := .cells #[.int .u64 t341, .int .u64 t342] 24 (0, 0)) (by (with_reducible repeat (first | refine blk_drewN ?_ _ | refine blk_drew ?_ | refine blk_alloc ?_ _)); exact BK343.out)) : gb343 ≠ gb359)); have n11_ := Aside0.mk ((by rw [hg]; exact Nat.ne_of_gt (blk_lt (g := gb343) (o := .cells #[.int .u64 t341, .int .u64 t342] 24 (0, 0)) (by (with_reducible repeat (first | refine blk_drewN ?_ _ | refine blk_drew ?_ | refine blk_alloc ?_ _)); exact BK343.out)) : gb359 ≠ gb343)); have n12_ := Aside0.mk ((by rw [hg]; exact Nat.ne_of_lt (blk_lt (g := gb349) (o := .cells #[.int .u64 t346, .int .u64 t347] 24 (0, 0)) (by (with_reducible repeat (first | refine blk_drewN ?_ _ | refine blk_drew ?_ | refine blk_alloc ?_ _)); exact BK349.out)) : gb349 ≠ gb359)); have n13_ := Aside0.mk ((by rw [hg]; exact Nat.ne_of_gt (blk_lt (g := gb349) (o := .cells #[.int .u64 t346, .int .u64 t347] 24 (0, 0)) (by (with_reducible repeat (first | refine blk_drewN ?_ _ | refine blk_drew ?_ | refine blk_alloc ?_ _)); exact BK349.out)) : gb359 ≠ gb349)); have n14_ := Aside0.mk ((by rw [hg]; exact Nat.ne_of_lt (blk_lt (g := gb353) (o := .cells #[.int .u64 t350, .int .u64 t351] 24 (0, 0)) (by (with_reducible repeat (first | refine blk_drewN ?_ _ | refine blk_drew ?_ | refine blk_alloc ?_ _)); exact BK353.out)) : gb353 ≠ gb359)); have n15_ := Aside0.mk ((by rw [hg]; exact Nat.ne_of_gt (blk_lt (g := gb353) (o := .cells #[.int .u64 t350, .int .u64 t351] 24 (0, 0)) (by (with_reducible repeat (first | refine blk_drewN ?_ _ | refine blk_drew ?_ | refine blk_alloc ?_ _)); exact BK353.out)) : gb359 ≠ gb353)); clear BK339; clear BK343; clear BK349; clear BK353; clear HB; have BK339 := n0_; have BK343 := n1_; have BK349 := n2_; have BK353 := n3_; have HB := n4_; have BK359 := n5_; have GW359 := n6_; have GE359 := n7_; have NB339_359 := n8_; have NB359_339 := n9_; have NB343_359 := n10_; have NB359_343 := n11_; have NB349_359 := n12_; have NB359_349 := n13_; have NB353_359 := n14_; have NB359_353 := n15_; clear n0_ n1_ n2_ n3_ n4_ n5_ n6_ n7_ n8_ n9_ n10_ n11_ n12_ n13_ n14_ n15_; clear hb hbox hg; have hnb85 := NB359_339.out; have hnc85 := NB339_359.out; have hnb86 := NB359_343.out; have hnc86 := NB343_359.out; have hnb87 := NB359_349.out; have hnc87 := NB349_359.out; have hnb88 := NB359_353.out; have hnc88 := NB353_359.out; have hcz89_0 : w84.cell? ⟨gb359, 0, none⟩ = some (.int .u64 0) := (blk_cell BK359.out 0).trans rfl; have hcz89_1 : w84.cell? ⟨gb359, 1, none⟩ = some (.int .u64 0) := (blk_cell BK359.out 1).trans rfl; have hfz89_0 := blk_frozen BK359.out 0; have hfz89_1 := blk_frozen BK359.out 1; have hnb90 := NB343_339.out; have hnc90 := NB339_343.out; have hnb91 := NB343_349.out; have hnc91 := NB349_343.out; have hnb92 := NB343_353.out; have hnc92 := NB353_343.out; have hcz93_0 : w84.cell? ⟨gb343, 0, none⟩ = some (.int .u64 t341) := (blk_cell BK343.out 0).trans rfl; have hcz93_1 : w84.cell? ⟨gb343, 1, none⟩ = some (.int .u64 t342) := (blk_cell BK343.out 1).trans rfl; have hfz93_0 := blk_frozen BK343.out 0; have hfz93_1 := blk_frozen BK343.out 1; have hnb94 := NB353_339.out; have hnc94 := NB339_353.out; have hnb95 := NB353_349.out; have hnc95 := NB349_353.out; have hcz96_0 : w84.cell? ⟨gb353, 0, none⟩ = some (.int .u64 t350) := (blk_cell BK353.out 0).trans rfl; have hcz96_1 : w84.cell? ⟨gb353, 1, none⟩ = some (.int .u64 t351) := (blk_cell BK353.out 1).trans rfl; have hfz96_0 := blk_frozen BK353.out 0; have hfz96_1 := blk_frozen BK353.out 1) | ((with_reducible refine gate_callee (f := 9) rfl ?_); refine goesL_ (some 130) rfl rfl Tryd.func9 (by kernel_rfl) rfl #[.agg #[.int .u64 t350, .int .u64 t351], .int .i64 a1, .int .i64 x16_3] rfl (by (try simp only [List.map_toArray, List.map_cons, List.map_nil]); first | done | rfl | (simp only [List.length_drop, List.length_take]; rfl)) ?_; (with_reducible refine (value_Text.calls kj47 t350 t351 a1 x16_3 t360 t361 _ ?side1 A66.out).mono ?_); (case side1 => exact GlobalsAt.below HG.out (by repeat (first | (with_reducible first | exact HB.out | apply below_alloc | apply pw_below_drewN | apply below_drew1 | refine below_set ?_ GE339.out | refine below_set ?_ GE343.out | refine below_set ?_ GE349.out | refine below_set ?_ GE353.out | refine below_set ?_ GE359.out) | exact HB.out))); rintro e w97 ⟨rfl, hb⟩; refine ⟨_, rfl, ?_⟩; have n0_ := Aside0.mk (blk_below (g := gb339) (o := .cells #[.int .u64 a0_0, .int .u64 a0_1] 24 (0, 0)) (by (with_reducible repeat (first | refine blk_drewN ?_ _ | refine blk_drew ?_ | refine blk_alloc ?_ _)); refine blk_far ?_ NB339_359.out _; (with_reducible repeat (first | refine blk_drewN ?_ _ | refine blk_drew ?_ | refine blk_alloc ?_ _)); refine blk_far ?_ NB339_359.out _; (with_reducible repeat (first | refine blk_drewN ?_ _ | refine blk_drew ?_ | refine blk_alloc ?_ _)); exact BK339.out) hb); have n1_ := Aside0.mk (blk_below (g := gb343) (o := .cells #[.int .u64 t341, .int .u64 t342] 24 (0, 0)) (by (with_reducible repeat (first | refine blk_drewN ?_ _ | refine blk_drew ?_ | refine blk_alloc ?_ _)); refine blk_far ?_ NB343_359.out _; (with_reducible repeat (first | refine blk_drewN ?_ _ | refine blk_drew ?_ | refine blk_alloc ?_ _)); refine blk_far ?_ NB343_359.out _; (with_reducible repeat (first | refine blk_drewN ?_ _ | refine blk_drew ?_ | refine blk_alloc ?_ _)); exact BK343.out) hb); have n2_ := Aside0.mk (blk_below (g := gb349) (o := .cells #[.int .u64 t346, .int .u64 t347] 24 (0, 0)) (by (with_reducible repeat (first | refine blk_drewN ?_ _ | refine blk_drew ?_ | refine blk_alloc ?_ _)); refine blk_far ?_ NB349_359.out _; (with_reducible repeat (first | refine blk_drewN ?_ _ | refine blk_drew ?_ | refine blk_alloc ?_ _)); refine blk_far ?_ NB349_359.out _; (with_reducible repeat (first | refine blk_drewN ?_ _ | refine blk_drew ?_ | refine blk_alloc ?_ _)); exact BK349.out) hb); have n3_ := Aside0.mk (blk_below (g := gb353) (o := .cells #[.int .u64 t350, .int .u64 t351] 24 (0, 0)) (by (with_reducible repeat (first | refine blk_drewN ?_ _ | refine blk_drew ?_ | refine blk_alloc ?_ _)); refine blk_far ?_ NB353_359.out _; (with_reducible repeat (first | refine blk_drewN ?_ _ | refine blk_drew ?_ | refine blk_alloc ?_ _)); refine blk_far ?_ NB353_359.out _; (with_reducible repeat (first | refine blk_drewN ?_ _ | refine blk_drew ?_ | refine blk_alloc ?_ _)); exact BK353.out) hb); have n4_ := Aside0.mk (blk_below (g := gb359) (o := .cells #[.int .u64 t356, .int .u64 t357] 24 (0, 0)) (by (with_reducible repeat (first | refine blk_drewN ?_ _ | refine blk_drew ?_ | refine blk_alloc ?_ _)); refine blk_put (cs := #[.int .u64 t356, .int .u64 0]) ?_ 1 _ rfl; (with_reducible repeat (first | refine blk_drewN ?_ _ | refine blk_drew ?_ | refine blk_alloc ?_ _)); refine blk_put (cs := #[.int .u64 0, .int .u64 0]) ?_ 0 _ rfl; (with_reducible repeat (first | refine blk_drewN ?_ _ | refine blk_drew ?_ | refine blk_alloc ?_ _)); exact BK359.out) hb); have n5_ := Aside0.mk (below_step (by repeat (first | (with_reducible first | exact HB.out | apply below_alloc | apply pw_below_drewN | apply below_drew1 | refine below_set ?_ GE339.out | refine below_set ?_ GE343.out | refine below_set ?_ GE349.out | refine below_set ?_ GE353.out | refine below_set ?_ GE359.out) | exact HB.out)) hb); clear BK339; clear BK343; clear BK349; clear BK353; clear BK359; clear HB; have BK339 := n0_; have BK343 := n1_; have BK349 := n2_; have BK353 := n3_; have BK359 := n4_; have HB := n5_; clear n0_ n1_ n2_ n3_ n4_ n5_; (try clear hb); (try clear hb2); (try clear hk); (try clear hi)))
                 go_roundg kj47
                 case measure => have := HJ4.out; have := HJ12.out; have := HK3.out; have := HJ47.out; omega
                 case rel => exact ⟨((t360.toList == a2.toList)), (wrap64 (x16_3 + 1)), (by first | rfl | (simp; done) | (simp [*]; done)), (by first | rfl | (simp; done) | (simp [*]; done)), H', ⟨by have := HJ4.out; have := HJ12.out; have := HK3.out; have := HJ47.out; omega⟩, ⟨by (with_reducible repeat (first | refine blk_drewN ?_ _ | refine blk_drew ?_ | refine blk_alloc ?_ _)); exact BK339.out⟩, ⟨by (with_reducible repeat (first | refine blk_drewN ?_ _ | refine blk_drew ?_ | refine blk_alloc ?_ _)); exact BK343.out⟩, ⟨by (with_reducible repeat (first | refine blk_drewN ?_ _ | refine blk_drew ?_ | refine blk_alloc ?_ _)); exact BK349.out⟩, ⟨by (with_reducible repeat (first | refine blk_drewN ?_ _ | refine blk_drew ?_ | refine blk_alloc ?_ _)); exact BK353.out⟩, ⟨by repeat (first | (with_reducible first | exact HB.out | apply below_alloc | apply pw_below_drewN | apply below_drew1 | refine below_set ?_ GE339.out | refine below_set ?_ GE343.out | refine below_set ?_ GE349.out | refine below_set ?_ GE353.out | refine below_set ?_ GE359.out) | exact HB.out)⟩⟩
               ·
                rw [if_neg c65] at H
                have c65b0 : (t358 == 0) = false := beq_eq_false_iff_ne.mpr c65
                have c65b1 : (t358 != 0) = true := bne_iff_ne.mpr c65
                exact absurd ((Option.some.inj H).trans hrt.out) (by decide)
             ·
              replace c62 := Bool.eq_false_iff.mpr c62
              subst c62
              have H1 : ((value_Text.f kj47 t350 t351 a1 x16_3).bind fun bt362 => (if x15_3 = true then (turnoutlaw01_ValueBack.l0 kj47 a1 a2 t340 true (wrap64 (x16_3 + 1)) t341 t342 t350 t351) else (turnoutlaw01_ValueBack.l0 kj47 a1 a2 t340 (bt362.1.toList == a2.toList) (wrap64 (x16_3 + 1)) t341 t342 t350 t351))) = some r := by rw [if_neg (show ¬ (false = true) by decide)] at H; exact H
              clear H
              have H := H1
              clear H1
              replace H := Option.bind_eq_some_iff.mp H
              obtain ⟨⟨t362, t363⟩, A980, H⟩ := H
              replace H : (if x15_3 = true then (turnoutlaw01_ValueBack.l0 kj47 a1 a2 t340 true (wrap64 (x16_3 + 1)) t341 t342 t350 t351) else (turnoutlaw01_ValueBack.l0 kj47 a1 a2 t340 (t362.toList == a2.toList) (wrap64 (x16_3 + 1)) t341 t342 t350 t351)) = some r := H
              have A98 := Aside0.mk A980
              clear A980
              by_cases c99 : x15_3 = true
              ·
               subst c99
               have H1 : (turnoutlaw01_ValueBack.l0 kj47 a1 a2 t340 true (wrap64 (x16_3 + 1)) t341 t342 t350 t351) = some r := by rw [if_pos rfl] at H; exact H
               clear H
               have H := H1
               clear H1
               have H' := Aside0.mk H
               clear H
               have hnb100 := NB353_339.out
               have hnc100 := NB339_353.out
               have hnb101 := NB353_343.out
               have hnc101 := NB343_353.out
               have hnb102 := NB353_349.out
               have hnc102 := NB349_353.out
               have hcz103_0 : wc.cell? ⟨gb353, 0, none⟩ = some (.int .u64 t350) := (blk_cell BK353.out 0).trans rfl
               have hcz103_1 : wc.cell? ⟨gb353, 1, none⟩ = some (.int .u64 t351) := (blk_cell BK353.out 1).trans rfl
               have hfz103_0 := blk_frozen BK353.out 0
               have hfz103_1 := blk_frozen BK353.out 1
               go_wp2_with (first | ((with_reducible refine gate_callee (f := 9) rfl ?_); refine goesL_ (some 130) rfl rfl Tryd.func9 (by kernel_rfl) rfl #[.agg #[.int .u64 t350, .int .u64 t351], .int .i64 a1, .int .i64 x16_3] rfl (by (try simp only [List.map_toArray, List.map_cons, List.map_nil]); first | done | rfl | (simp only [List.length_drop, List.length_take]; rfl)) ?_; (with_reducible refine (value_Text.calls kj47 t350 t351 a1 x16_3 t362 t363 _ ?side1 A98.out).mono ?_); (case side1 => exact GlobalsAt.below HG.out (by repeat (first | (with_reducible first | exact HB.out | apply below_alloc | apply pw_below_drewN | apply below_drew1 | refine below_set ?_ GE339.out | refine below_set ?_ GE343.out | refine below_set ?_ GE349.out | refine below_set ?_ GE353.out) | exact HB.out))); rintro e w104 ⟨rfl, hb⟩; refine ⟨_, rfl, ?_⟩; have n0_ := Aside0.mk (blk_below (g := gb339) (o := .cells #[.int .u64 a0_0, .int .u64 a0_1] 24 (0, 0)) (by (with_reducible repeat (first | refine blk_drewN ?_ _ | refine blk_drew ?_ | refine blk_alloc ?_ _)); exact BK339.out) hb); have n1_ := Aside0.mk (blk_below (g := gb343) (o := .cells #[.int .u64 t341, .int .u64 t342] 24 (0, 0)) (by (with_reducible repeat (first | refine blk_drewN ?_ _ | refine blk_drew ?_ | refine blk_alloc ?_ _)); exact BK343.out) hb); have n2_ := Aside0.mk (blk_below (g := gb349) (o := .cells #[.int .u64 t346, .int .u64 t347] 24 (0, 0)) (by (with_reducible repeat (first | refine blk_drewN ?_ _ | refine blk_drew ?_ | refine blk_alloc ?_ _)); exact BK349.out) hb); have n3_ := Aside0.mk (blk_below (g := gb353) (o := .cells #[.int .u64 t350, .int .u64 t351] 24 (0, 0)) (by (with_reducible repeat (first | refine blk_drewN ?_ _ | refine blk_drew ?_ | refine blk_alloc ?_ _)); exact BK353.out) hb); have n4_ := Aside0.mk (below_step (by repeat (first | (with_reducible first | exact HB.out | apply below_alloc | apply pw_below_drewN | apply below_drew1 | refine below_set ?_ GE339.out | refine below_set ?_ GE343.out | refine below_set ?_ GE349.out | refine below_set ?_ GE353.out) | exact HB.out)) hb); clear BK339; clear BK343; clear BK349; clear BK353; clear HB; have BK339 := n0_; have BK343 := n1_; have BK349 := n2_; have BK353 := n3_; have HB := n4_; clear n0_ n1_ n2_ n3_ n4_; (try clear hb); (try clear hb2); (try clear hk); (try clear hi)))
               go_roundg kj47
               case measure => have := HJ4.out; have := HJ12.out; have := HK3.out; have := HJ47.out; omega
               case rel => exact ⟨(true), (wrap64 (x16_3 + 1)), (by first | rfl | (simp; done) | (simp [*]; done)), (by first | rfl | (simp; done) | (simp [*]; done)), H', ⟨by have := HJ4.out; have := HJ12.out; have := HK3.out; have := HJ47.out; omega⟩, ⟨by (with_reducible repeat (first | refine blk_drewN ?_ _ | refine blk_drew ?_ | refine blk_alloc ?_ _)); exact BK339.out⟩, ⟨by (with_reducible repeat (first | refine blk_drewN ?_ _ | refine blk_drew ?_ | refine blk_alloc ?_ _)); exact BK343.out⟩, ⟨by (with_reducible repeat (first | refine blk_drewN ?_ _ | refine blk_drew ?_ | refine blk_alloc ?_ _)); exact BK349.out⟩, ⟨by (with_reducible repeat (first | refine blk_drewN ?_ _ | refine blk_drew ?_ | refine blk_alloc ?_ _)); exact BK353.out⟩, ⟨by repeat (first | (with_reducible first | exact HB.out | apply below_alloc | apply pw_below_drewN | apply below_drew1 | refine below_set ?_ GE339.out | refine below_set ?_ GE343.out | refine below_set ?_ GE349.out | refine below_set ?_ GE353.out) | exact HB.out)⟩⟩
              ·
               replace c99 := Bool.eq_false_iff.mpr c99
               subst c99
               have H1 : (turnoutlaw01_ValueBack.l0 kj47 a1 a2 t340 (t362.toList == a2.toList) (wrap64 (x16_3 + 1)) t341 t342 t350 t351) = some r := by rw [if_neg (show ¬ (false = true) by decide)] at H; exact H
               clear H
               have H := H1
               clear H1
               have H' := Aside0.mk H
               clear H
               have hnb105 := NB353_339.out
               have hnc105 := NB339_353.out
               have hnb106 := NB353_343.out
               have hnc106 := NB343_353.out
               have hnb107 := NB353_349.out
               have hnc107 := NB349_353.out
               have hcz108_0 : wc.cell? ⟨gb353, 0, none⟩ = some (.int .u64 t350) := (blk_cell BK353.out 0).trans rfl
               have hcz108_1 : wc.cell? ⟨gb353, 1, none⟩ = some (.int .u64 t351) := (blk_cell BK353.out 1).trans rfl
               have hfz108_0 := blk_frozen BK353.out 0
               have hfz108_1 := blk_frozen BK353.out 1
               go_wp2_with (first | ((with_reducible refine gate_callee (f := 9) rfl ?_); refine goesL_ (some 130) rfl rfl Tryd.func9 (by kernel_rfl) rfl #[.agg #[.int .u64 t350, .int .u64 t351], .int .i64 a1, .int .i64 x16_3] rfl (by (try simp only [List.map_toArray, List.map_cons, List.map_nil]); first | done | rfl | (simp only [List.length_drop, List.length_take]; rfl)) ?_; (with_reducible refine (value_Text.calls kj47 t350 t351 a1 x16_3 t362 t363 _ ?side1 A98.out).mono ?_); (case side1 => exact GlobalsAt.below HG.out (by repeat (first | (with_reducible first | exact HB.out | apply below_alloc | apply pw_below_drewN | apply below_drew1 | refine below_set ?_ GE339.out | refine below_set ?_ GE343.out | refine below_set ?_ GE349.out | refine below_set ?_ GE353.out) | exact HB.out))); rintro e w109 ⟨rfl, hb⟩; refine ⟨_, rfl, ?_⟩; have n0_ := Aside0.mk (blk_below (g := gb339) (o := .cells #[.int .u64 a0_0, .int .u64 a0_1] 24 (0, 0)) (by (with_reducible repeat (first | refine blk_drewN ?_ _ | refine blk_drew ?_ | refine blk_alloc ?_ _)); exact BK339.out) hb); have n1_ := Aside0.mk (blk_below (g := gb343) (o := .cells #[.int .u64 t341, .int .u64 t342] 24 (0, 0)) (by (with_reducible repeat (first | refine blk_drewN ?_ _ | refine blk_drew ?_ | refine blk_alloc ?_ _)); exact BK343.out) hb); have n2_ := Aside0.mk (blk_below (g := gb349) (o := .cells #[.int .u64 t346, .int .u64 t347] 24 (0, 0)) (by (with_reducible repeat (first | refine blk_drewN ?_ _ | refine blk_drew ?_ | refine blk_alloc ?_ _)); exact BK349.out) hb); have n3_ := Aside0.mk (blk_below (g := gb353) (o := .cells #[.int .u64 t350, .int .u64 t351] 24 (0, 0)) (by (with_reducible repeat (first | refine blk_drewN ?_ _ | refine blk_drew ?_ | refine blk_alloc ?_ _)); exact BK353.out) hb); have n4_ := Aside0.mk (below_step (by repeat (first | (with_reducible first | exact HB.out | apply below_alloc | apply pw_below_drewN | apply below_drew1 | refine below_set ?_ GE339.out | refine below_set ?_ GE343.out | refine below_set ?_ GE349.out | refine below_set ?_ GE353.out) | exact HB.out)) hb); clear BK339; clear BK343; clear BK349; clear BK353; clear HB; have BK339 := n0_; have BK343 := n1_; have BK349 := n2_; have BK353 := n3_; have HB := n4_; clear n0_ n1_ n2_ n3_ n4_; (try clear hb); (try clear hb2); (try clear hk); (try clear hi)))
               go_roundg kj47
               case measure => have := HJ4.out; have := HJ12.out; have := HK3.out; have := HJ47.out; omega
               case rel => exact ⟨((t362.toList == a2.toList)), (wrap64 (x16_3 + 1)), (by first | rfl | (simp; done) | (simp [*]; done)), (by first | rfl | (simp; done) | (simp [*]; done)), H', ⟨by have := HJ4.out; have := HJ12.out; have := HK3.out; have := HJ47.out; omega⟩, ⟨by (with_reducible repeat (first | refine blk_drewN ?_ _ | refine blk_drew ?_ | refine blk_alloc ?_ _)); exact BK339.out⟩, ⟨by (with_reducible repeat (first | refine blk_drewN ?_ _ | refine blk_drew ?_ | refine blk_alloc ?_ _)); exact BK343.out⟩, ⟨by (with_reducible repeat (first | refine blk_drewN ?_ _ | refine blk_drew ?_ | refine blk_alloc ?_ _)); exact BK349.out⟩, ⟨by (with_reducible repeat (first | refine blk_drewN ?_ _ | refine blk_drew ?_ | refine blk_alloc ?_ _)); exact BK353.out⟩, ⟨by repeat (first | (with_reducible first | exact HB.out | apply below_alloc | apply pw_below_drewN | apply below_drew1 | refine below_set ?_ GE339.out | refine below_set ?_ GE343.out | refine below_set ?_ GE349.out | refine below_set ?_ GE353.out) | exact HB.out)⟩⟩
         ·
          rw [if_neg c46] at H
          have c46b0 : decide (x16_3 ≤ 5) = false := decide_eq_false c46
          clear c46
          by_cases c110 : t340 = true
          ·
           subst c110
           have H1 : (some x15_3) = some r := by rw [if_pos rfl] at H; exact H
           clear H
           have H := H1
           clear H1
           obtain rfl := Option.some.inj H
           go_wp2
           go_ret
           exact ⟨by first | rfl | (simp [errW_none, errW_some] <;> rfl) | (simp [*, errW_none, errW_some] <;> rfl), by repeat (first | (with_reducible first | exact HB.out | apply below_alloc | apply pw_below_drewN | apply below_drew1 | refine below_set ?_ GE339.out | refine below_set ?_ GE343.out | refine below_set ?_ GE349.out | refine below_set ?_ GE353.out) | exact HB.out)⟩
          ·
           replace c110 := Bool.eq_false_iff.mpr c110
           subst c110
           have H1 : (some false) = some r := by rw [if_neg (show ¬ (false = true) by decide)] at H; exact H
           clear H
           have H := H1
           clear H1
           exact absurd ((Option.some.inj H).trans hrt.out) (by decide)
end Go.Proofs.YtofnhgpiipmegaaDoor.PV
