-- Printed by this session's gprint.py (the kit's printer, with functions given by hand). Not trusted: Lean checks it.
import Derived.Test.YtofnhgpiipmegaaDoorPVx0
import Derived.Test.YtofnhgpiipmegaaDoorPVx1
import Derived.Test.YtofnhgpiipmegaaDoorPVx2
import Derived.Test.YtofnhgpiipmegaaDoorPVx4
import Derived.Test.YtofnhgpiipmegaaDoorPVx5
import Derived.Test.YtofnhgpiipmegaaDoorPVx6
import Derived.Test.YtofnhgpiipmegaaDoorPVx16
namespace Go.Proofs.YtofnhgpiipmegaaDoor.PV
open Go.RowKit Go.Proofs.YtofnhgpiipmegaaDoorW.PrintWords Go.Proofs.YtofnhgpiipmegaaDoorW.PrintLast Go.Proofs.YtofnhgpiipmegaaDoorW.PrintMore
attribute [local go_sem] max2_int min2_int max_two min_two max_three min_three max_four min_four   -- for this text's walks alone
set_option linter.unusedVariables false
set_option linter.unusedSimpArgs false

theorem bl_asymm : ∀ (x y : List UInt8), Op.bytesLess y x = !(Op.bytesLess x y || x == y)
  | [], [] => by simp [Op.bytesLess]
  | [], b :: y => by simp [Op.bytesLess]
  | a :: x, [] => by simp [Op.bytesLess]
  | a :: x, b :: y => by
    have ih := bl_asymm x y
    simp only [Op.bytesLess, ih]
    by_cases h : a = b
    · subst h
      have : ¬ a < a := by exact UInt8.lt_irrefl a
      simp [this]
    · have h2 : (decide (b < a)) = !(decide (a < b)) := by
        rcases Nat.lt_or_gt_of_ne (fun e => h (UInt8.toNat_inj.mp e) : a.toNat ≠ b.toNat) with hl | hl
        · have h3 : a < b := hl
          have h4 : ¬ b < a := fun h5 => Nat.lt_asymm hl h5
          simp [h3, h4]
        · have h3 : b < a := hl
          have h4 : ¬ a < b := fun h5 => Nat.lt_asymm hl h5
          simp [h3, h4]
      have h5 : ¬ b = a := fun e => h e.symm
      have h6 : (b == a) = false := beq_eq_false_iff_ne.mpr h5
      have h7 : (a == b) = false := beq_eq_false_iff_ne.mpr h
      simp [h6, h7, h2]
theorem binOp_string_gtr' (t : TypeId) (a b : ByteArray) : binOp .gtr t (.string a) (.string b) = pure (.bool (Op.bytesLess b.toList a.toList)) := by
  rw [bl_asymm]; simp [binOp, Op.stringOp]
attribute [local go_sem high] binOp_string_gtr'
attribute [local go_sem high] eqA24
/-! ### turnoutlaw01_ValueOrder: function 6 -/
mutual
def turnoutlaw01_ValueOrder.j0 : Nat → Int → Bool → Bool → Int → Int → Int → Int → Option (Bool)
  | 0, _, _, _, _, _, _, _ => none
  | k + 1, x2, x7, x26, x415000, x415001, x416000, x416001 => if x26 = true then (some x7) else ((value_Cut.f x415000 x415001 x2).bind fun bt417 => ((value_Cut.f x416000 x416001 x2).bind fun bt420 => ((value_Common.f k x415000 x415001 x416000 x416001 x2).bind fun t423 => (if t423 < 0 then (turnoutlaw01_ValueOrder.j1 k x2 x7 t423 true bt417.1 bt417.2 bt420.1 bt420.2) else (if t423 > x2 then (turnoutlaw01_ValueOrder.j1 k x2 x7 t423 true bt417.1 bt417.2 bt420.1 bt420.2) else (turnoutlaw01_ValueOrder.j1 k x2 x7 t423 ((t423 == x2) != (bt417.1 == bt420.1 && (bt417.2 == bt420.2))) bt417.1 bt417.2 bt420.1 bt420.2))))))
def turnoutlaw01_ValueOrder.j1 : Nat → Int → Bool → Int → Bool → Int → Int → Int → Int → Option (Bool)
  | 0, _, _, _, _, _, _, _, _ => none
  | k + 1, x2, x7, x10, x53, x420000, x420001, x423000, x423001 => if x53 = true then (some false) else ((value_Mask.f k x2 x10).bind fun bt424 => (if bt424.2.2 = 0 then ((value_And.f x420000 x420001 bt424.1 bt424.2.1).bind fun bt428 => ((value_And.f x423000 x423001 bt424.1 bt424.2.1).bind fun bt430 => (turnoutlaw01_ValueOrder.j2 k x2 x7 x10 (!(bt428.1 == bt430.1) || (!(bt428.2 == bt430.2))) x420000 x420001 x423000 x423001))) else (turnoutlaw01_ValueOrder.j2 k x2 x7 x10 true x420000 x420001 x423000 x423001)))
def turnoutlaw01_ValueOrder.j2 : Nat → Int → Bool → Int → Bool → Int → Int → Int → Int → Option (Bool)
  | 0, _, _, _, _, _, _, _, _ => none
  | k + 1, x2, x7, x10, x70, x420000, x420001, x423000, x423001 => if x70 = true then (some false) else (if x10 < x2 then ((value_Bit.f x420000 x420001 x2 x10).bind fun t432 => ((value_Bit.f x423000 x423001 x2 x10).bind fun t433 => (if (t432 == t433) = true then (some false) else (if t432 = true then (turnoutlaw01_ValueOrder.j3 k x2 x7 1 x420000 x420001 x423000 x423001) else (turnoutlaw01_ValueOrder.j3 k x2 x7 (-1) x420000 x420001 x423000 x423001))))) else (turnoutlaw01_ValueOrder.j3 k x2 x7 0 x420000 x420001 x423000 x423001))
def turnoutlaw01_ValueOrder.j3 : Nat → Int → Bool → Int → Int → Int → Int → Int → Option (Bool)
  | 0, _, _, _, _, _, _, _ => none
  | k + 1, x2, x7, x13, x420000, x420001, x423000, x423001 => (value_Bytes.f k x420000 x420001 x2).bind fun bt434 => ((value_Bytes.f k x423000 x423001 x2).bind fun bt436 => (if (Op.bytesLess bt434.1.toList bt436.1.toList) = true then (turnoutlaw01_ValueOrder.j4 k x7 x13 bt434.1 bt434.2 bt436.1 bt436.2 (-1) x420000 x420001 x423000 x423001) else (turnoutlaw01_ValueOrder.j4 k x7 x13 bt434.1 bt434.2 bt436.1 bt436.2 0 x420000 x420001 x423000 x423001)))
def turnoutlaw01_ValueOrder.j4 : Nat → Bool → Int → ByteArray → Int → ByteArray → Int → Int → Int → Int → Int → Int → Option (Bool)
  | 0, _, _, _, _, _, _, _, _, _, _, _ => none
  | k + 1, x7, x13, x15, x16, x17, x18, x19, x420000, x420001, x423000, x423001 => if (Op.bytesLess x17.toList x15.toList) = true then (if x7 = true then ((value_Compare.f k x420000 x420001 x423000 x423001).bind fun t438 => (if t438 = x13 then ((value_Compare.f k x423000 x423001 x420000 x420001).bind fun t439 => (if t439 = (wrap64 (-x13)) then (if x16 = 0 then (if x18 = 0 then (some (1 == x13)) else (some false)) else (some false)) else (some false))) else (some false))) else (some false)) else (if x7 = true then ((value_Compare.f k x420000 x420001 x423000 x423001).bind fun t440 => (if t440 = x13 then ((value_Compare.f k x423000 x423001 x420000 x420001).bind fun t441 => (if t441 = (wrap64 (-x13)) then (if x16 = 0 then (if x18 = 0 then (some (x19 == x13)) else (some false)) else (some false)) else (some false))) else (some false))) else (some false))
end
def turnoutlaw01_ValueOrder.f (k : Nat) (a0_0 : Int) (a0_1 : Int) (a1_0 : Int) (a1_1 : Int) (a2 : Int) : Option (Bool) := (turnoutlaw01_awake.f k).bind fun t416 => (if a2 < 1 then (turnoutlaw01_ValueOrder.j0 k a2 t416 true a0_0 a0_1 a1_0 a1_1) else (turnoutlaw01_ValueOrder.j0 k a2 t416 (decide (a2 > 128)) a0_0 a0_1 a1_0 a1_1))
theorem turnoutlaw01_ValueOrder.mono_l : ∀ k, (∀ y0 y1 y2 y3 y4 y5 y6, LeO (turnoutlaw01_ValueOrder.j0 k y0 y1 y2 y3 y4 y5 y6) (turnoutlaw01_ValueOrder.j0 (k + 1) y0 y1 y2 y3 y4 y5 y6)) ∧ (∀ y0 y1 y2 y3 y4 y5 y6 y7, LeO (turnoutlaw01_ValueOrder.j1 k y0 y1 y2 y3 y4 y5 y6 y7) (turnoutlaw01_ValueOrder.j1 (k + 1) y0 y1 y2 y3 y4 y5 y6 y7)) ∧ (∀ y0 y1 y2 y3 y4 y5 y6 y7, LeO (turnoutlaw01_ValueOrder.j2 k y0 y1 y2 y3 y4 y5 y6 y7) (turnoutlaw01_ValueOrder.j2 (k + 1) y0 y1 y2 y3 y4 y5 y6 y7)) ∧ (∀ y0 y1 y2 y3 y4 y5 y6, LeO (turnoutlaw01_ValueOrder.j3 k y0 y1 y2 y3 y4 y5 y6) (turnoutlaw01_ValueOrder.j3 (k + 1) y0 y1 y2 y3 y4 y5 y6)) ∧ (∀ y0 y1 y2 y3 y4 y5 y6 y7 y8 y9 y10, LeO (turnoutlaw01_ValueOrder.j4 k y0 y1 y2 y3 y4 y5 y6 y7 y8 y9 y10) (turnoutlaw01_ValueOrder.j4 (k + 1) y0 y1 y2 y3 y4 y5 y6 y7 y8 y9 y10))
  | 0 => ⟨fun _ _ _ _ _ _ _ r h => by simp [turnoutlaw01_ValueOrder.j0] at h, fun _ _ _ _ _ _ _ _ r h => by simp [turnoutlaw01_ValueOrder.j1] at h, fun _ _ _ _ _ _ _ _ r h => by simp [turnoutlaw01_ValueOrder.j2] at h, fun _ _ _ _ _ _ _ r h => by simp [turnoutlaw01_ValueOrder.j3] at h, fun _ _ _ _ _ _ _ _ _ _ _ r h => by simp [turnoutlaw01_ValueOrder.j4] at h⟩
  | k + 1 => by
    obtain ⟨ih0, ih1, ih2, ih3, ih4⟩ := turnoutlaw01_ValueOrder.mono_l k
    refine ⟨?_, ?_, ?_, ?_, ?_⟩
    · intro y0 y1 y2 y3 y4 y5 y6
      unfold turnoutlaw01_ValueOrder.j0
      repeat' first
      | (with_reducible exact ih0 _ _ _ _ _ _ _)
      | (with_reducible exact ih1 _ _ _ _ _ _ _ _)
      | (with_reducible exact ih2 _ _ _ _ _ _ _ _)
      | (with_reducible exact ih3 _ _ _ _ _ _ _)
      | (with_reducible exact ih4 _ _ _ _ _ _ _ _ _ _ _)
      | (with_reducible exact turnoutlaw01_awake.mono _)
      | (with_reducible exact value_Bytes.mono _ _ _ _)
      | (with_reducible exact value_Common.mono _ _ _ _ _ _)
      | (with_reducible exact value_Compare.mono _ _ _ _ _)
      | (with_reducible exact value_Mask.mono _ _ _)
      | (with_reducible exact LeO.refl _)
      | (with_reducible exact LeO.none _)
      | (with_reducible refine LeO.ite ?_ ?_)
      | (with_reducible refine LeO.bind ?_ (fun _ => ?_))
      | exact ih0 _ _ _ _ _ _ _
      | exact ih1 _ _ _ _ _ _ _ _
      | exact ih2 _ _ _ _ _ _ _ _
      | exact ih3 _ _ _ _ _ _ _
      | exact ih4 _ _ _ _ _ _ _ _ _ _ _
      | exact turnoutlaw01_awake.mono _
      | exact value_Bytes.mono _ _ _ _
      | exact value_Common.mono _ _ _ _ _ _
      | exact value_Compare.mono _ _ _ _ _
      | exact value_Mask.mono _ _ _
      | exact LeO.none _
      | refine LeO.ite ?_ ?_
      | refine LeO.bind ?_ (fun _ => ?_)
    · intro y0 y1 y2 y3 y4 y5 y6 y7
      unfold turnoutlaw01_ValueOrder.j1
      repeat' first
      | (with_reducible exact ih0 _ _ _ _ _ _ _)
      | (with_reducible exact ih1 _ _ _ _ _ _ _ _)
      | (with_reducible exact ih2 _ _ _ _ _ _ _ _)
      | (with_reducible exact ih3 _ _ _ _ _ _ _)
      | (with_reducible exact ih4 _ _ _ _ _ _ _ _ _ _ _)
      | (with_reducible exact turnoutlaw01_awake.mono _)
      | (with_reducible exact value_Bytes.mono _ _ _ _)
      | (with_reducible exact value_Common.mono _ _ _ _ _ _)
      | (with_reducible exact value_Compare.mono _ _ _ _ _)
      | (with_reducible exact value_Mask.mono _ _ _)
      | (with_reducible exact LeO.refl _)
      | (with_reducible exact LeO.none _)
      | (with_reducible refine LeO.ite ?_ ?_)
      | (with_reducible refine LeO.bind ?_ (fun _ => ?_))
      | exact ih0 _ _ _ _ _ _ _
      | exact ih1 _ _ _ _ _ _ _ _
      | exact ih2 _ _ _ _ _ _ _ _
      | exact ih3 _ _ _ _ _ _ _
      | exact ih4 _ _ _ _ _ _ _ _ _ _ _
      | exact turnoutlaw01_awake.mono _
      | exact value_Bytes.mono _ _ _ _
      | exact value_Common.mono _ _ _ _ _ _
      | exact value_Compare.mono _ _ _ _ _
      | exact value_Mask.mono _ _ _
      | exact LeO.none _
      | refine LeO.ite ?_ ?_
      | refine LeO.bind ?_ (fun _ => ?_)
    · intro y0 y1 y2 y3 y4 y5 y6 y7
      unfold turnoutlaw01_ValueOrder.j2
      repeat' first
      | (with_reducible exact ih0 _ _ _ _ _ _ _)
      | (with_reducible exact ih1 _ _ _ _ _ _ _ _)
      | (with_reducible exact ih2 _ _ _ _ _ _ _ _)
      | (with_reducible exact ih3 _ _ _ _ _ _ _)
      | (with_reducible exact ih4 _ _ _ _ _ _ _ _ _ _ _)
      | (with_reducible exact turnoutlaw01_awake.mono _)
      | (with_reducible exact value_Bytes.mono _ _ _ _)
      | (with_reducible exact value_Common.mono _ _ _ _ _ _)
      | (with_reducible exact value_Compare.mono _ _ _ _ _)
      | (with_reducible exact value_Mask.mono _ _ _)
      | (with_reducible exact LeO.refl _)
      | (with_reducible exact LeO.none _)
      | (with_reducible refine LeO.ite ?_ ?_)
      | (with_reducible refine LeO.bind ?_ (fun _ => ?_))
      | exact ih0 _ _ _ _ _ _ _
      | exact ih1 _ _ _ _ _ _ _ _
      | exact ih2 _ _ _ _ _ _ _ _
      | exact ih3 _ _ _ _ _ _ _
      | exact ih4 _ _ _ _ _ _ _ _ _ _ _
      | exact turnoutlaw01_awake.mono _
      | exact value_Bytes.mono _ _ _ _
      | exact value_Common.mono _ _ _ _ _ _
      | exact value_Compare.mono _ _ _ _ _
      | exact value_Mask.mono _ _ _
      | exact LeO.none _
      | refine LeO.ite ?_ ?_
      | refine LeO.bind ?_ (fun _ => ?_)
    · intro y0 y1 y2 y3 y4 y5 y6
      unfold turnoutlaw01_ValueOrder.j3
      repeat' first
      | (with_reducible exact ih0 _ _ _ _ _ _ _)
      | (with_reducible exact ih1 _ _ _ _ _ _ _ _)
      | (with_reducible exact ih2 _ _ _ _ _ _ _ _)
      | (with_reducible exact ih3 _ _ _ _ _ _ _)
      | (with_reducible exact ih4 _ _ _ _ _ _ _ _ _ _ _)
      | (with_reducible exact turnoutlaw01_awake.mono _)
      | (with_reducible exact value_Bytes.mono _ _ _ _)
      | (with_reducible exact value_Common.mono _ _ _ _ _ _)
      | (with_reducible exact value_Compare.mono _ _ _ _ _)
      | (with_reducible exact value_Mask.mono _ _ _)
      | (with_reducible exact LeO.refl _)
      | (with_reducible exact LeO.none _)
      | (with_reducible refine LeO.ite ?_ ?_)
      | (with_reducible refine LeO.bind ?_ (fun _ => ?_))
      | exact ih0 _ _ _ _ _ _ _
      | exact ih1 _ _ _ _ _ _ _ _
      | exact ih2 _ _ _ _ _ _ _ _
      | exact ih3 _ _ _ _ _ _ _
      | exact ih4 _ _ _ _ _ _ _ _ _ _ _
      | exact turnoutlaw01_awake.mono _
      | exact value_Bytes.mono _ _ _ _
      | exact value_Common.mono _ _ _ _ _ _
      | exact value_Compare.mono _ _ _ _ _
      | exact value_Mask.mono _ _ _
      | exact LeO.none _
      | refine LeO.ite ?_ ?_
      | refine LeO.bind ?_ (fun _ => ?_)
    · intro y0 y1 y2 y3 y4 y5 y6 y7 y8 y9 y10
      unfold turnoutlaw01_ValueOrder.j4
      repeat' first
      | (with_reducible exact ih0 _ _ _ _ _ _ _)
      | (with_reducible exact ih1 _ _ _ _ _ _ _ _)
      | (with_reducible exact ih2 _ _ _ _ _ _ _ _)
      | (with_reducible exact ih3 _ _ _ _ _ _ _)
      | (with_reducible exact ih4 _ _ _ _ _ _ _ _ _ _ _)
      | (with_reducible exact turnoutlaw01_awake.mono _)
      | (with_reducible exact value_Bytes.mono _ _ _ _)
      | (with_reducible exact value_Common.mono _ _ _ _ _ _)
      | (with_reducible exact value_Compare.mono _ _ _ _ _)
      | (with_reducible exact value_Mask.mono _ _ _)
      | (with_reducible exact LeO.refl _)
      | (with_reducible exact LeO.none _)
      | (with_reducible refine LeO.ite ?_ ?_)
      | (with_reducible refine LeO.bind ?_ (fun _ => ?_))
      | exact ih0 _ _ _ _ _ _ _
      | exact ih1 _ _ _ _ _ _ _ _
      | exact ih2 _ _ _ _ _ _ _ _
      | exact ih3 _ _ _ _ _ _ _
      | exact ih4 _ _ _ _ _ _ _ _ _ _ _
      | exact turnoutlaw01_awake.mono _
      | exact value_Bytes.mono _ _ _ _
      | exact value_Common.mono _ _ _ _ _ _
      | exact value_Compare.mono _ _ _ _ _
      | exact value_Mask.mono _ _ _
      | exact LeO.none _
      | refine LeO.ite ?_ ?_
      | refine LeO.bind ?_ (fun _ => ?_)
theorem turnoutlaw01_ValueOrder.mono : ∀ a0 a1 a2 a3 a4 k, LeO (turnoutlaw01_ValueOrder.f k a0 a1 a2 a3 a4) (turnoutlaw01_ValueOrder.f (k + 1) a0 a1 a2 a3 a4) := by
  intro a0 a1 a2 a3 a4 k
  obtain ⟨ih0, ih1, ih2, ih3, ih4⟩ := turnoutlaw01_ValueOrder.mono_l k
  unfold turnoutlaw01_ValueOrder.f
  repeat' first
      | (with_reducible exact ih0 _ _ _ _ _ _ _)
      | (with_reducible exact ih1 _ _ _ _ _ _ _ _)
      | (with_reducible exact ih2 _ _ _ _ _ _ _ _)
      | (with_reducible exact ih3 _ _ _ _ _ _ _)
      | (with_reducible exact ih4 _ _ _ _ _ _ _ _ _ _ _)
      | (with_reducible exact turnoutlaw01_awake.mono _)
      | (with_reducible exact value_Bytes.mono _ _ _ _)
      | (with_reducible exact value_Common.mono _ _ _ _ _ _)
      | (with_reducible exact value_Compare.mono _ _ _ _ _)
      | (with_reducible exact value_Mask.mono _ _ _)
      | (with_reducible exact LeO.refl _)
      | (with_reducible exact LeO.none _)
      | (with_reducible refine LeO.ite ?_ ?_)
      | (with_reducible refine LeO.bind ?_ (fun _ => ?_))
      | exact ih0 _ _ _ _ _ _ _
      | exact ih1 _ _ _ _ _ _ _ _
      | exact ih2 _ _ _ _ _ _ _ _
      | exact ih3 _ _ _ _ _ _ _
      | exact ih4 _ _ _ _ _ _ _ _ _ _ _
      | exact turnoutlaw01_awake.mono _
      | exact value_Bytes.mono _ _ _ _
      | exact value_Common.mono _ _ _ _ _ _
      | exact value_Compare.mono _ _ _ _ _
      | exact value_Mask.mono _ _ _
      | exact LeO.none _
      | refine LeO.ite ?_ ?_
      | refine LeO.bind ?_ (fun _ => ?_)
def turnoutlaw01_ValueOrder.T10 : Bool × List (List Nat × List Nat) := (true, [([], []), ([0], [0]), ([1], [1]), ([2], [2]), ([2], [2]), ([3, 4, 2, 2], [2, 3, 4]), ([2], [2]), ([2], [2]), ([6, 7, 5, 2], [2, 6, 7]), ([5, 8, 2], [2, 5, 8]), ([2, 9], [2, 9])])
def turnoutlaw01_ValueOrder.B10 : List Nat := [0, 1, 3, 7, 7, 31, 7, 7, 255, 511, 1023]
theorem turnoutlaw01_ValueOrder.tab10 : rtab .any (opsOf Tryd.f6 10) = turnoutlaw01_ValueOrder.T10 := by kernel_rfl
theorem turnoutlaw01_ValueOrder.bits10 : waitsOk turnoutlaw01_ValueOrder.T10.2 turnoutlaw01_ValueOrder.B10 = true := by kernel_rfl
set_option maxHeartbeats 8000000 in
set_option maxRecDepth 100000 in
theorem turnoutlaw01_ValueOrder.calls (k : Nat) (a0_0 : Int) (a0_1 : Int) (a1_0 : Int) (a1_1 : Int) (a2 : Int) (r : Bool) (w : World) (hG : GlobalsAt w) (h : turnoutlaw01_ValueOrder.f k a0_0 a0_1 a1_0 a1_1 a2 = some r) (hrt : Aside0 (r = true)) :
    Calls Tryd.prog 6 #[.agg #[.int .u64 a0_0, .int .u64 a0_1], .agg #[.int .u64 a1_0, .int .u64 a1_1], .int .i64 a2] w fun e w' => e = .returned (.bool r) ∧ Below w.heap.size w w' := by
  have HG := Aside0.mk hG
  clear hG
  have hu24 := Tryd.underlying24
  have HB := Aside0.mk (Below.refl w.heap.size w)
  have H : ((turnoutlaw01_awake.f k).bind fun t416 => (if a2 < 1 then (turnoutlaw01_ValueOrder.j0 k a2 t416 true a0_0 a0_1 a1_0 a1_1) else (turnoutlaw01_ValueOrder.j0 k a2 t416 (decide (a2 > 128)) a0_0 a0_1 a1_0 a1_1))) = some r := h
  clear h
  replace H := Option.bind_eq_some_iff.mp H
  obtain ⟨t416, A40, H⟩ := H
  replace H : (if a2 < 1 then (turnoutlaw01_ValueOrder.j0 k a2 t416 true a0_0 a0_1 a1_0 a1_1) else (turnoutlaw01_ValueOrder.j0 k a2 t416 (decide (a2 > 128)) a0_0 a0_1 a1_0 a1_1)) = some r := H
  have A4 := Aside0.mk A40
  clear A40
  have HC5 := Aside0.mk H
  clear H
  go_enter Tryd.func6, Tryd.ntmps6
  go_upto_region 2 with (first | ((with_reducible refine gate_dst (N := 3) rfl ?_); refine box_event ?hg (N := 3) ?hd (cs := #[.int .u64 a0_0, .int .u64 a0_1]) (t := 24) ?hr ?_; (case hd => rfl); (case hg => rfl); (case hr => first | (go_simp; done) | (go_simp; rfl)); intro gb414 hg w6 hbox hb; have n0_ := Aside0.mk (below_step (by repeat (first | (with_reducible first | exact HB.out | apply below_alloc | apply pw_below_drewN | apply below_drew1) | exact HB.out)) hb); have n1_ := Aside0.mk (hbox); have n2_ := Aside0.mk ((by rw [hg]; exact (below_size (by repeat (first | (with_reducible first | exact HB.out | apply below_alloc | apply pw_below_drewN | apply below_drew1) | exact HB.out))) : w.heap.size ≤ gb414)); have n3_ := Aside0.mk ((by rw [hg]; exact (below_size (by repeat (first | (with_reducible first | exact HB.out | apply below_alloc | apply pw_below_drewN | apply below_drew1) | exact HB.out))) : w.heap.size ≤ gb414)); clear HB; have HB := n0_; have BK414 := n1_; have GW414 := n2_; have GE414 := n3_; clear n0_ n1_ n2_ n3_; clear hb hbox hg) | ((with_reducible refine gate_dst (N := 4) rfl ?_); refine box_event ?hg (N := 4) ?hd (cs := #[.int .u64 a1_0, .int .u64 a1_1]) (t := 24) ?hr ?_; (case hd => rfl); (case hg => rfl); (case hr => first | (go_simp; done) | (go_simp; rfl)); intro gb415 hg w7 hbox hb; have n0_ := Aside0.mk (blk_below (g := gb414) (o := .cells #[.int .u64 a0_0, .int .u64 a0_1] 24 (0, 0)) (by (with_reducible repeat (first | refine blk_drewN ?_ _ | refine blk_drew ?_ | refine blk_alloc ?_ _)); exact BK414.out) hb); have n1_ := Aside0.mk (below_step (by repeat (first | (with_reducible first | exact HB.out | apply below_alloc | apply pw_below_drewN | apply below_drew1 | refine below_set ?_ GE414.out) | exact HB.out)) hb); have n2_ := Aside0.mk (hbox); have n3_ := Aside0.mk ((by rw [hg]; exact (below_size (by repeat (first | (with_reducible first | exact HB.out | apply below_alloc | apply pw_below_drewN | apply below_drew1 | refine below_set ?_ GE414.out) | exact HB.out))) : w.heap.size ≤ gb415)); have n4_ := Aside0.mk ((by rw [hg]; exact (below_size (by repeat (first | (with_reducible first | exact HB.out | apply below_alloc | apply pw_below_drewN | apply below_drew1 | refine below_set ?_ GE414.out) | exact HB.out))) : w.heap.size ≤ gb415)); have n5_ := Aside0.mk ((by rw [hg]; exact Nat.ne_of_lt (blk_lt (g := gb414) (o := .cells #[.int .u64 a0_0, .int .u64 a0_1] 24 (0, 0)) (by (with_reducible repeat (first | refine blk_drewN ?_ _ | refine blk_drew ?_ | refine blk_alloc ?_ _)); exact BK414.out)) : gb414 ≠ gb415)); have n6_ := Aside0.mk ((by rw [hg]; exact Nat.ne_of_gt (blk_lt (g := gb414) (o := .cells #[.int .u64 a0_0, .int .u64 a0_1] 24 (0, 0)) (by (with_reducible repeat (first | refine blk_drewN ?_ _ | refine blk_drew ?_ | refine blk_alloc ?_ _)); exact BK414.out)) : gb415 ≠ gb414)); clear BK414; clear HB; have BK414 := n0_; have HB := n1_; have BK415 := n2_; have GW415 := n3_; have GE415 := n4_; have NB414_415 := n5_; have NB415_414 := n6_; clear n0_ n1_ n2_ n3_ n4_ n5_ n6_; clear hb hbox hg) | ((with_reducible refine gate_callee (f := 8) rfl ?_); refine goesL_ (some 20) rfl rfl Tryd.func8 (by kernel_rfl) rfl #[] rfl (by (try simp only [List.map_toArray, List.map_cons, List.map_nil]); first | done | rfl | (simp only [List.length_drop, List.length_take]; rfl)) ?_; (with_reducible refine (turnoutlaw01_awake.calls k  t416 _ ?side1 A4.out).mono ?_); (case side1 => exact GlobalsAt.below HG.out (by repeat (first | (with_reducible first | exact HB.out | apply below_alloc | apply pw_below_drewN | apply below_drew1 | refine below_set ?_ GE414.out | refine below_set ?_ GE415.out) | exact HB.out))); rintro e w8 ⟨rfl, hb⟩; refine ⟨_, rfl, ?_⟩; have n0_ := Aside0.mk (blk_below (g := gb414) (o := .cells #[.int .u64 a0_0, .int .u64 a0_1] 24 (0, 0)) (by (with_reducible repeat (first | refine blk_drewN ?_ _ | refine blk_drew ?_ | refine blk_alloc ?_ _)); exact BK414.out) hb); have n1_ := Aside0.mk (blk_below (g := gb415) (o := .cells #[.int .u64 a1_0, .int .u64 a1_1] 24 (0, 0)) (by (with_reducible repeat (first | refine blk_drewN ?_ _ | refine blk_drew ?_ | refine blk_alloc ?_ _)); exact BK415.out) hb); have n2_ := Aside0.mk (below_step (by repeat (first | (with_reducible first | exact HB.out | apply below_alloc | apply pw_below_drewN | apply below_drew1 | refine below_set ?_ GE414.out | refine below_set ?_ GE415.out) | exact HB.out)) hb); clear BK414; clear BK415; clear HB; have BK414 := n0_; have BK415 := n1_; have HB := n2_; clear n0_ n1_ n2_; (try clear hb); (try clear hb2); (try clear hk); (try clear hi)))
  (try simp only [Act.put, List.setIfInBounds_toArray, List.set_cons_zero, List.set_cons_succ])
  go_cut [26] (fun v26 wc => ∃ (kq : Nat) (x26_4 : Bool), v26 = .bool x26_4 ∧ Aside0 (turnoutlaw01_ValueOrder.j0 kq a2 t416 x26_4 a0_0 a0_1 a1_0 a1_1 = some r) ∧ Aside0 (kq ≤ k) ∧ Aside0 (wc.heap[gb414]? = some (.cells #[.int .u64 a0_0, .int .u64 a0_1] 24 (0, 0))) ∧ Aside0 (wc.heap[gb415]? = some (.cells #[.int .u64 a1_0, .int .u64 a1_1] 24 (0, 0))) ∧ Aside0 (Below w.heap.size w wc))
  case first =>
    have H := HC5.out
    clear HC5
    by_cases c9 : a2 < 1
    · rw [if_pos c9] at H
      have c9b0 : decide (a2 < 1) = true := decide_eq_true c9
      clear c9
      (first | rw [c9b0] | (simp only [i64_w, i32_w]; rw [c9b0]) | skip)
      have H' := Aside0.mk H
      clear H
      go_wp2
      go_meet
      case rel => exact ⟨_, (true), (by first | rfl | (simp; done) | (simp [*]; done)), H', ⟨by first | omega | exact Nat.le_refl _⟩, ⟨by (with_reducible repeat (first | refine blk_drewN ?_ _ | refine blk_drew ?_ | refine blk_alloc ?_ _)); exact BK414.out⟩, ⟨by (with_reducible repeat (first | refine blk_drewN ?_ _ | refine blk_drew ?_ | refine blk_alloc ?_ _)); exact BK415.out⟩, ⟨by repeat (first | (with_reducible first | exact HB.out | apply below_alloc | apply pw_below_drewN | apply below_drew1 | refine below_set ?_ GE414.out | refine below_set ?_ GE415.out) | exact HB.out)⟩⟩
    · rw [if_neg c9] at H
      have c9b0 : decide (a2 < 1) = false := decide_eq_false c9
      clear c9
      (first | rw [c9b0] | (simp only [i64_w, i32_w]; rw [c9b0]) | skip)
      have H' := Aside0.mk H
      clear H
      go_wp2
      go_meet
      case rel => exact ⟨_, (decide (a2 > 128)), (by first | rfl | (simp; done) | (simp [*]; done)), H', ⟨by first | omega | exact Nat.le_refl _⟩, ⟨by (with_reducible repeat (first | refine blk_drewN ?_ _ | refine blk_drew ?_ | refine blk_alloc ?_ _)); exact BK414.out⟩, ⟨by (with_reducible repeat (first | refine blk_drewN ?_ _ | refine blk_drew ?_ | refine blk_alloc ?_ _)); exact BK415.out⟩, ⟨by repeat (first | (with_reducible first | exact HB.out | apply below_alloc | apply pw_below_drewN | apply below_drew1 | refine below_set ?_ GE414.out | refine below_set ?_ GE415.out) | exact HB.out)⟩⟩
  case rest =>
    clear HC5
    try clear p2
    try clear c6
    try clear c8
    try clear c9
    try clear c9b0
    obtain ⟨kq, x26_4, rfl, HA, HJ4, BK414, BK415, HB⟩ := hcut
    cases kq with
    | zero => exact absurd HA.out (by simp [turnoutlaw01_ValueOrder.j0])
    | succ kj4 =>
      have H := HA.out
      clear HA
      simp only [turnoutlaw01_ValueOrder.j0] at H
      by_cases c10 : x26_4 = true
      · subst c10
        have H1 : (some t416) = some r := by rw [if_pos rfl] at H; exact H
        clear H
        have H := H1
        clear H1
        obtain rfl := Option.some.inj H
        go_wp2
        go_ret
        exact ⟨by first | rfl | (simp [errW_none, errW_some] <;> rfl) | (simp [*, errW_none, errW_some] <;> rfl), by repeat (first | (with_reducible first | exact HB.out | apply below_alloc | apply pw_below_drewN | apply below_drew1 | refine below_set ?_ GE414.out | refine below_set ?_ GE415.out) | exact HB.out)⟩
      · replace c10 := Bool.eq_false_iff.mpr c10
        subst c10
        have H1 : ((value_Cut.f a0_0 a0_1 a2).bind fun bt417 => ((value_Cut.f a1_0 a1_1 a2).bind fun bt420 => ((value_Common.f kj4 a0_0 a0_1 a1_0 a1_1 a2).bind fun t423 => (if t423 < 0 then (turnoutlaw01_ValueOrder.j1 kj4 a2 t416 t423 true bt417.1 bt417.2 bt420.1 bt420.2) else (if t423 > a2 then (turnoutlaw01_ValueOrder.j1 kj4 a2 t416 t423 true bt417.1 bt417.2 bt420.1 bt420.2) else (turnoutlaw01_ValueOrder.j1 kj4 a2 t416 t423 ((t423 == a2) != (bt417.1 == bt420.1 && (bt417.2 == bt420.2))) bt417.1 bt417.2 bt420.1 bt420.2)))))) = some r := by rw [if_neg (show ¬ (false = true) by decide)] at H; exact H
        clear H
        have H := H1
        clear H1
        replace H := Option.bind_eq_some_iff.mp H
        obtain ⟨⟨t417, t418⟩, A110, H⟩ := H
        replace H : ((value_Cut.f a1_0 a1_1 a2).bind fun bt420 => ((value_Common.f kj4 a0_0 a0_1 a1_0 a1_1 a2).bind fun t423 => (if t423 < 0 then (turnoutlaw01_ValueOrder.j1 kj4 a2 t416 t423 true t417 t418 bt420.1 bt420.2) else (if t423 > a2 then (turnoutlaw01_ValueOrder.j1 kj4 a2 t416 t423 true t417 t418 bt420.1 bt420.2) else (turnoutlaw01_ValueOrder.j1 kj4 a2 t416 t423 ((t423 == a2) != (t417 == bt420.1 && (t418 == bt420.2))) t417 t418 bt420.1 bt420.2))))) = some r := H
        have A11 := Aside0.mk A110
        clear A110
        replace H := Option.bind_eq_some_iff.mp H
        obtain ⟨⟨t420, t421⟩, A120, H⟩ := H
        replace H : ((value_Common.f kj4 a0_0 a0_1 a1_0 a1_1 a2).bind fun t423 => (if t423 < 0 then (turnoutlaw01_ValueOrder.j1 kj4 a2 t416 t423 true t417 t418 t420 t421) else (if t423 > a2 then (turnoutlaw01_ValueOrder.j1 kj4 a2 t416 t423 true t417 t418 t420 t421) else (turnoutlaw01_ValueOrder.j1 kj4 a2 t416 t423 ((t423 == a2) != (t417 == t420 && (t418 == t421))) t417 t418 t420 t421)))) = some r := H
        have A12 := Aside0.mk A120
        clear A120
        replace H := Option.bind_eq_some_iff.mp H
        obtain ⟨t423, A130, H⟩ := H
        replace H : (if t423 < 0 then (turnoutlaw01_ValueOrder.j1 kj4 a2 t416 t423 true t417 t418 t420 t421) else (if t423 > a2 then (turnoutlaw01_ValueOrder.j1 kj4 a2 t416 t423 true t417 t418 t420 t421) else (turnoutlaw01_ValueOrder.j1 kj4 a2 t416 t423 ((t423 == a2) != (t417 == t420 && (t418 == t421))) t417 t418 t420 t421))) = some r := H
        have A13 := Aside0.mk A130
        clear A130
        have HC14 := Aside0.mk H
        clear H
        have hnb15 := NB414_415.out
        have hnc15 := NB415_414.out
        have hcz16_0 : wc.cell? ⟨gb414, 0, none⟩ = some (.int .u64 a0_0) := (blk_cell BK414.out 0).trans rfl
        have hcz16_1 : wc.cell? ⟨gb414, 1, none⟩ = some (.int .u64 a0_1) := (blk_cell BK414.out 1).trans rfl
        have hfz16_0 := blk_frozen BK414.out 0
        have hfz16_1 := blk_frozen BK414.out 1
        go_upto_region 7 with (first | ((with_reducible refine gate_callee (f := 13) rfl ?_); refine goesL_ (some 30) rfl rfl Tryd.func13 (by kernel_rfl) rfl #[.agg #[.int .u64 a0_0, .int .u64 a0_1], .int .i64 a2] rfl (by (try simp only [List.map_toArray, List.map_cons, List.map_nil]); first | done | rfl | (simp only [List.length_drop, List.length_take]; rfl)) ?_; (with_reducible refine (value_Cut.calls a0_0 a0_1 a2 t417 t418 _ A11.out).mono ?_); rintro e w17 ⟨rfl, hb⟩; refine ⟨_, rfl, ?_⟩; have n0_ := Aside0.mk (blk_below (g := gb414) (o := .cells #[.int .u64 a0_0, .int .u64 a0_1] 24 (0, 0)) (by (with_reducible repeat (first | refine blk_drewN ?_ _ | refine blk_drew ?_ | refine blk_alloc ?_ _)); exact BK414.out) hb); have n1_ := Aside0.mk (blk_below (g := gb415) (o := .cells #[.int .u64 a1_0, .int .u64 a1_1] 24 (0, 0)) (by (with_reducible repeat (first | refine blk_drewN ?_ _ | refine blk_drew ?_ | refine blk_alloc ?_ _)); exact BK415.out) hb); have n2_ := Aside0.mk (below_step (by repeat (first | (with_reducible first | exact HB.out | apply below_alloc | apply pw_below_drewN | apply below_drew1 | refine below_set ?_ GE414.out | refine below_set ?_ GE415.out) | exact HB.out)) hb); clear BK414; clear BK415; clear HB; have BK414 := n0_; have BK415 := n1_; have HB := n2_; clear n0_ n1_ n2_; (try clear hb); (try clear hb2); (try clear hk); (try clear hi)) | ((with_reducible refine gate_dst (N := 8) rfl ?_); refine box_event ?hg (N := 8) ?hd (cs := #[.int .u64 0, .int .u64 0]) (t := 24) ?hr ?_; (case hd => rfl); (case hg => rfl); (case hr => first | (go_simp; done) | (go_simp; rfl)); intro gb419 hg w18 hbox hb; have n0_ := Aside0.mk (blk_below (g := gb414) (o := .cells #[.int .u64 a0_0, .int .u64 a0_1] 24 (0, 0)) (by (with_reducible repeat (first | refine blk_drewN ?_ _ | refine blk_drew ?_ | refine blk_alloc ?_ _)); exact BK414.out) hb); have n1_ := Aside0.mk (blk_below (g := gb415) (o := .cells #[.int .u64 a1_0, .int .u64 a1_1] 24 (0, 0)) (by (with_reducible repeat (first | refine blk_drewN ?_ _ | refine blk_drew ?_ | refine blk_alloc ?_ _)); exact BK415.out) hb); have n2_ := Aside0.mk (below_step (by repeat (first | (with_reducible first | exact HB.out | apply below_alloc | apply pw_below_drewN | apply below_drew1 | refine below_set ?_ GE414.out | refine below_set ?_ GE415.out) | exact HB.out)) hb); have n3_ := Aside0.mk (hbox); have n4_ := Aside0.mk ((by rw [hg]; exact (below_size (by repeat (first | (with_reducible first | exact HB.out | apply below_alloc | apply pw_below_drewN | apply below_drew1 | refine below_set ?_ GE414.out | refine below_set ?_ GE415.out) | exact HB.out))) : w.heap.size ≤ gb419)); have n5_ := Aside0.mk ((by rw [hg]; exact (below_size (by repeat (first | (with_reducible first | exact HB.out | apply below_alloc | apply pw_below_drewN | apply below_drew1 | refine below_set ?_ GE414.out | refine below_set ?_ GE415.out) | exact HB.out))) : w.heap.size ≤ gb419)); have n6_ := Aside0.mk ((by rw [hg]; exact Nat.ne_of_lt (blk_lt (g := gb414) (o := .cells #[.int .u64 a0_0, .int .u64 a0_1] 24 (0, 0)) (by (with_reducible repeat (first | refine blk_drewN ?_ _ | refine blk_drew ?_ | refine blk_alloc ?_ _)); exact BK414.out)) : gb414 ≠ gb419)); have n7_ := Aside0.mk ((by rw [hg]; exact Nat.ne_of_gt (blk_lt (g := gb414) (o := .cells #[.int .u64 a0_0, .int .u64 a0_1] 24 (0, 0)) (by (with_reducible repeat (first | refine blk_drewN ?_ _ | refine blk_drew ?_ | refine blk_alloc ?_ _)); exact BK414.out)) : gb419 ≠ gb414)); have n8_ := Aside0.mk ((by rw [hg]; exact Nat.ne_of_lt (blk_lt (g := gb415) (o := .cells #[.int .u64 a1_0, .int .u64 a1_1] 24 (0, 0)) (by (with_reducible repeat (first | refine blk_drewN ?_ _ | refine blk_drew ?_ | refine blk_alloc ?_ _)); exact BK415.out)) : gb415 ≠ gb419)); have n9_ := Aside0.mk ((by rw [hg]; exact Nat.ne_of_gt (blk_lt (g := gb415) (o := .cells #[.int .u64 a1_0, .int .u64 a1_1] 24 (0, 0)) (by (with_reducible repeat (first | refine blk_drewN ?_ _ | refine blk_drew ?_ | refine blk_alloc ?_ _)); exact BK415.out)) : gb419 ≠ gb415)); clear BK414; clear BK415; clear HB; have BK414 := n0_; have BK415 := n1_; have HB := n2_; have BK419 := n3_; have GW419 := n4_; have GE419 := n5_; have NB414_419 := n6_; have NB419_414 := n7_; have NB415_419 := n8_; have NB419_415 := n9_; clear n0_ n1_ n2_ n3_ n4_ n5_ n6_ n7_ n8_ n9_; clear hb hbox hg; have hnb19 := NB419_414.out; have hnc19 := NB414_419.out; have hnb20 := NB419_415.out; have hnc20 := NB415_419.out; have hcz21_0 : w18.cell? ⟨gb419, 0, none⟩ = some (.int .u64 0) := (blk_cell BK419.out 0).trans rfl; have hcz21_1 : w18.cell? ⟨gb419, 1, none⟩ = some (.int .u64 0) := (blk_cell BK419.out 1).trans rfl; have hfz21_0 := blk_frozen BK419.out 0; have hfz21_1 := blk_frozen BK419.out 1; have hcz22_0 : w18.cell? ⟨gb415, 0, none⟩ = some (.int .u64 a1_0) := (blk_cell BK415.out 0).trans rfl; have hcz22_1 : w18.cell? ⟨gb415, 1, none⟩ = some (.int .u64 a1_1) := (blk_cell BK415.out 1).trans rfl; have hfz22_0 := blk_frozen BK415.out 0; have hfz22_1 := blk_frozen BK415.out 1) | ((with_reducible refine gate_callee (f := 13) rfl ?_); refine goesL_ (some 33) rfl rfl Tryd.func13 (by kernel_rfl) rfl #[.agg #[.int .u64 a1_0, .int .u64 a1_1], .int .i64 a2] rfl (by (try simp only [List.map_toArray, List.map_cons, List.map_nil]); first | done | rfl | (simp only [List.length_drop, List.length_take]; rfl)) ?_; (with_reducible refine (value_Cut.calls a1_0 a1_1 a2 t420 t421 _ A12.out).mono ?_); rintro e w23 ⟨rfl, hb⟩; refine ⟨_, rfl, ?_⟩; have n0_ := Aside0.mk (blk_below (g := gb414) (o := .cells #[.int .u64 a0_0, .int .u64 a0_1] 24 (0, 0)) (by (with_reducible repeat (first | refine blk_drewN ?_ _ | refine blk_drew ?_ | refine blk_alloc ?_ _)); refine blk_far ?_ NB414_419.out _; (with_reducible repeat (first | refine blk_drewN ?_ _ | refine blk_drew ?_ | refine blk_alloc ?_ _)); refine blk_far ?_ NB414_419.out _; (with_reducible repeat (first | refine blk_drewN ?_ _ | refine blk_drew ?_ | refine blk_alloc ?_ _)); exact BK414.out) hb); have n1_ := Aside0.mk (blk_below (g := gb415) (o := .cells #[.int .u64 a1_0, .int .u64 a1_1] 24 (0, 0)) (by (with_reducible repeat (first | refine blk_drewN ?_ _ | refine blk_drew ?_ | refine blk_alloc ?_ _)); refine blk_far ?_ NB415_419.out _; (with_reducible repeat (first | refine blk_drewN ?_ _ | refine blk_drew ?_ | refine blk_alloc ?_ _)); refine blk_far ?_ NB415_419.out _; (with_reducible repeat (first | refine blk_drewN ?_ _ | refine blk_drew ?_ | refine blk_alloc ?_ _)); exact BK415.out) hb); have n2_ := Aside0.mk (blk_below (g := gb419) (o := .cells #[.int .u64 t417, .int .u64 t418] 24 (0, 0)) (by (with_reducible repeat (first | refine blk_drewN ?_ _ | refine blk_drew ?_ | refine blk_alloc ?_ _)); refine blk_put (cs := #[.int .u64 t417, .int .u64 0]) ?_ 1 _ rfl; (with_reducible repeat (first | refine blk_drewN ?_ _ | refine blk_drew ?_ | refine blk_alloc ?_ _)); refine blk_put (cs := #[.int .u64 0, .int .u64 0]) ?_ 0 _ rfl; (with_reducible repeat (first | refine blk_drewN ?_ _ | refine blk_drew ?_ | refine blk_alloc ?_ _)); exact BK419.out) hb); have n3_ := Aside0.mk (below_step (by repeat (first | (with_reducible first | exact HB.out | apply below_alloc | apply pw_below_drewN | apply below_drew1 | refine below_set ?_ GE414.out | refine below_set ?_ GE415.out | refine below_set ?_ GE419.out) | exact HB.out)) hb); clear BK414; clear BK415; clear BK419; clear HB; have BK414 := n0_; have BK415 := n1_; have BK419 := n2_; have HB := n3_; clear n0_ n1_ n2_ n3_; (try clear hb); (try clear hb2); (try clear hk); (try clear hi)) | ((with_reducible refine gate_dst (N := 9) rfl ?_); refine box_event ?hg (N := 9) ?hd (cs := #[.int .u64 0, .int .u64 0]) (t := 24) ?hr ?_; (case hd => rfl); (case hg => rfl); (case hr => first | (go_simp; done) | (go_simp; rfl)); intro gb422 hg w24 hbox hb; have n0_ := Aside0.mk (blk_below (g := gb414) (o := .cells #[.int .u64 a0_0, .int .u64 a0_1] 24 (0, 0)) (by (with_reducible repeat (first | refine blk_drewN ?_ _ | refine blk_drew ?_ | refine blk_alloc ?_ _)); exact BK414.out) hb); have n1_ := Aside0.mk (blk_below (g := gb415) (o := .cells #[.int .u64 a1_0, .int .u64 a1_1] 24 (0, 0)) (by (with_reducible repeat (first | refine blk_drewN ?_ _ | refine blk_drew ?_ | refine blk_alloc ?_ _)); exact BK415.out) hb); have n2_ := Aside0.mk (blk_below (g := gb419) (o := .cells #[.int .u64 t417, .int .u64 t418] 24 (0, 0)) (by (with_reducible repeat (first | refine blk_drewN ?_ _ | refine blk_drew ?_ | refine blk_alloc ?_ _)); exact BK419.out) hb); have n3_ := Aside0.mk (below_step (by repeat (first | (with_reducible first | exact HB.out | apply below_alloc | apply pw_below_drewN | apply below_drew1 | refine below_set ?_ GE414.out | refine below_set ?_ GE415.out | refine below_set ?_ GE419.out) | exact HB.out)) hb); have n4_ := Aside0.mk (hbox); have n5_ := Aside0.mk ((by rw [hg]; exact (below_size (by repeat (first | (with_reducible first | exact HB.out | apply below_alloc | apply pw_below_drewN | apply below_drew1 | refine below_set ?_ GE414.out | refine below_set ?_ GE415.out | refine below_set ?_ GE419.out) | exact HB.out))) : w.heap.size ≤ gb422)); have n6_ := Aside0.mk ((by rw [hg]; exact (below_size (by repeat (first | (with_reducible first | exact HB.out | apply below_alloc | apply pw_below_drewN | apply below_drew1 | refine below_set ?_ GE414.out | refine below_set ?_ GE415.out | refine below_set ?_ GE419.out) | exact HB.out))) : w.heap.size ≤ gb422)); have n7_ := Aside0.mk ((by rw [hg]; exact Nat.ne_of_lt (blk_lt (g := gb414) (o := .cells #[.int .u64 a0_0, .int .u64 a0_1] 24 (0, 0)) (by (with_reducible repeat (first | refine blk_drewN ?_ _ | refine blk_drew ?_ | refine blk_alloc ?_ _)); exact BK414.out)) : gb414 ≠ gb422)); have n8_ := Aside0.mk ((by rw [hg]; exact Nat.ne_of_gt (blk_lt (g := gb414) (o := .cells #[.int .u64 a0_0, .int .u64 a0_1] 24 (0, 0)) (by (with_reducible repeat (first | refine blk_drewN ?_ _ | refine blk_drew ?_ | refine blk_alloc ?_ _)); exact BK414.out)) : gb422 ≠ gb414)); have n9_ := Aside0.mk ((by rw [hg]; exact Nat.ne_of_lt (blk_lt (g := gb415) (o := .cells #[.int .u64 a1_0, .int .u64 a1_1] 24 (0, 0)) (by (with_reducible repeat (first | refine blk_drewN ?_ _ | refine blk_drew ?_ | refine blk_alloc ?_ _)); exact BK415.out)) : gb415 ≠ gb422)); have n10_ := Aside0.mk ((by rw [hg]; exact Nat.ne_of_gt (blk_lt (g := gb415) (o := .cells #[.int .u64 a1_0, .int .u64 a1_1] 24 (0, 0)) (by (with_reducible repeat (first | refine blk_drewN ?_ _ | refine blk_drew ?_ | refine blk_alloc ?_ _)); exact BK415.out)) : gb422 ≠ gb415)); have n11_ := Aside0.mk ((by rw [hg]; exact Nat.ne_of_lt (blk_lt (g := gb419) (o := .cells #[.int .u64 t417, .int .u64 t418] 24 (0, 0)) (by (with_reducible repeat (first | refine blk_drewN ?_ _ | refine blk_drew ?_ | refine blk_alloc ?_ _)); exact BK419.out)) : gb419 ≠ gb422)); have n12_ := Aside0.mk ((by rw [hg]; exact Nat.ne_of_gt (blk_lt (g := gb419) (o := .cells #[.int .u64 t417, .int .u64 t418] 24 (0, 0)) (by (with_reducible repeat (first | refine blk_drewN ?_ _ | refine blk_drew ?_ | refine blk_alloc ?_ _)); exact BK419.out)) : gb422 ≠ gb419)); clear BK414; clear BK415; clear BK419; clear HB; have BK414 := n0_; have BK415 := n1_; have BK419 := n2_; have HB := n3_; have BK422 := n4_; have GW422 := n5_; have GE422 := n6_; have NB414_422 := n7_; have NB422_414 := n8_; have NB415_422 := n9_; have NB422_415 := n10_; have NB419_422 := n11_; have NB422_419 := n12_; clear n0_ n1_ n2_ n3_ n4_ n5_ n6_ n7_ n8_ n9_ n10_ n11_ n12_; clear hb hbox hg; have hnb25 := NB422_414.out; have hnc25 := NB414_422.out; have hnb26 := NB422_415.out; have hnc26 := NB415_422.out; have hnb27 := NB422_419.out; have hnc27 := NB419_422.out; have hcz28_0 : w24.cell? ⟨gb422, 0, none⟩ = some (.int .u64 0) := (blk_cell BK422.out 0).trans rfl; have hcz28_1 : w24.cell? ⟨gb422, 1, none⟩ = some (.int .u64 0) := (blk_cell BK422.out 1).trans rfl; have hfz28_0 := blk_frozen BK422.out 0; have hfz28_1 := blk_frozen BK422.out 1; have hcz29_0 : w24.cell? ⟨gb414, 0, none⟩ = some (.int .u64 a0_0) := (blk_cell BK414.out 0).trans rfl; have hcz29_1 : w24.cell? ⟨gb414, 1, none⟩ = some (.int .u64 a0_1) := (blk_cell BK414.out 1).trans rfl; have hfz29_0 := blk_frozen BK414.out 0; have hfz29_1 := blk_frozen BK414.out 1; have hcz30_0 : w24.cell? ⟨gb415, 0, none⟩ = some (.int .u64 a1_0) := (blk_cell BK415.out 0).trans rfl; have hcz30_1 : w24.cell? ⟨gb415, 1, none⟩ = some (.int .u64 a1_1) := (blk_cell BK415.out 1).trans rfl; have hfz30_0 := blk_frozen BK415.out 0; have hfz30_1 := blk_frozen BK415.out 1) | ((with_reducible refine gate_callee (f := 20) rfl ?_); refine goesL_ (some 37) rfl rfl Tryd.func20 (by kernel_rfl) rfl #[.agg #[.int .u64 a0_0, .int .u64 a0_1], .agg #[.int .u64 a1_0, .int .u64 a1_1], .int .i64 a2] rfl (by (try simp only [List.map_toArray, List.map_cons, List.map_nil]); first | done | rfl | (simp only [List.length_drop, List.length_take]; rfl)) ?_; (with_reducible refine (value_Common.calls kj4 a0_0 a0_1 a1_0 a1_1 a2 t423 _ A13.out).mono ?_); rintro e w31 ⟨rfl, hb⟩; refine ⟨_, rfl, ?_⟩; have n0_ := Aside0.mk (blk_below (g := gb414) (o := .cells #[.int .u64 a0_0, .int .u64 a0_1] 24 (0, 0)) (by (with_reducible repeat (first | refine blk_drewN ?_ _ | refine blk_drew ?_ | refine blk_alloc ?_ _)); refine blk_far ?_ NB414_422.out _; (with_reducible repeat (first | refine blk_drewN ?_ _ | refine blk_drew ?_ | refine blk_alloc ?_ _)); refine blk_far ?_ NB414_422.out _; (with_reducible repeat (first | refine blk_drewN ?_ _ | refine blk_drew ?_ | refine blk_alloc ?_ _)); exact BK414.out) hb); have n1_ := Aside0.mk (blk_below (g := gb415) (o := .cells #[.int .u64 a1_0, .int .u64 a1_1] 24 (0, 0)) (by (with_reducible repeat (first | refine blk_drewN ?_ _ | refine blk_drew ?_ | refine blk_alloc ?_ _)); refine blk_far ?_ NB415_422.out _; (with_reducible repeat (first | refine blk_drewN ?_ _ | refine blk_drew ?_ | refine blk_alloc ?_ _)); refine blk_far ?_ NB415_422.out _; (with_reducible repeat (first | refine blk_drewN ?_ _ | refine blk_drew ?_ | refine blk_alloc ?_ _)); exact BK415.out) hb); have n2_ := Aside0.mk (blk_below (g := gb419) (o := .cells #[.int .u64 t417, .int .u64 t418] 24 (0, 0)) (by (with_reducible repeat (first | refine blk_drewN ?_ _ | refine blk_drew ?_ | refine blk_alloc ?_ _)); refine blk_far ?_ NB419_422.out _; (with_reducible repeat (first | refine blk_drewN ?_ _ | refine blk_drew ?_ | refine blk_alloc ?_ _)); refine blk_far ?_ NB419_422.out _; (with_reducible repeat (first | refine blk_drewN ?_ _ | refine blk_drew ?_ | refine blk_alloc ?_ _)); exact BK419.out) hb); have n3_ := Aside0.mk (blk_below (g := gb422) (o := .cells #[.int .u64 t420, .int .u64 t421] 24 (0, 0)) (by (with_reducible repeat (first | refine blk_drewN ?_ _ | refine blk_drew ?_ | refine blk_alloc ?_ _)); refine blk_put (cs := #[.int .u64 t420, .int .u64 0]) ?_ 1 _ rfl; (with_reducible repeat (first | refine blk_drewN ?_ _ | refine blk_drew ?_ | refine blk_alloc ?_ _)); refine blk_put (cs := #[.int .u64 0, .int .u64 0]) ?_ 0 _ rfl; (with_reducible repeat (first | refine blk_drewN ?_ _ | refine blk_drew ?_ | refine blk_alloc ?_ _)); exact BK422.out) hb); have n4_ := Aside0.mk (below_step (by repeat (first | (with_reducible first | exact HB.out | apply below_alloc | apply pw_below_drewN | apply below_drew1 | refine below_set ?_ GE414.out | refine below_set ?_ GE415.out | refine below_set ?_ GE419.out | refine below_set ?_ GE422.out) | exact HB.out)) hb); clear BK414; clear BK415; clear BK419; clear BK422; clear HB; have BK414 := n0_; have BK415 := n1_; have BK419 := n2_; have BK422 := n3_; have HB := n4_; clear n0_ n1_ n2_ n3_ n4_; (try clear hb); (try clear hb2); (try clear hk); (try clear hi)))
        (try simp only [Act.put, List.setIfInBounds_toArray, List.set_cons_zero, List.set_cons_succ])
        go_cut [53] (fun v53 wc => ∃ (kq : Nat) (x53_13 : Bool), v53 = .bool x53_13 ∧ Aside0 (turnoutlaw01_ValueOrder.j1 kq a2 t416 t423 x53_13 t417 t418 t420 t421 = some r) ∧ Aside0 (kq ≤ kj4) ∧ Aside0 (wc.heap[gb414]? = some (.cells #[.int .u64 a0_0, .int .u64 a0_1] 24 (0, 0))) ∧ Aside0 (wc.heap[gb415]? = some (.cells #[.int .u64 a1_0, .int .u64 a1_1] 24 (0, 0))) ∧ Aside0 (wc.heap[gb419]? = some (.cells #[.int .u64 t417, .int .u64 t418] 24 (0, 0))) ∧ Aside0 (wc.heap[gb422]? = some (.cells #[.int .u64 t420, .int .u64 t421] 24 (0, 0))) ∧ Aside0 (Below w.heap.size w wc))
        case first =>
          have H := HC14.out
          clear HC14
          by_cases c32 : t423 < 0
          · rw [if_pos c32] at H
            have c32b0 : decide (t423 < 0) = true := decide_eq_true c32
            clear c32
            (first | rw [c32b0] | (simp only [i64_w, i32_w]; rw [c32b0]) | skip)
            have H' := Aside0.mk H
            clear H
            go_wp2
            go_meet
            case rel => exact ⟨_, (true), (by first | rfl | (simp; done) | (simp [*]; done)), H', ⟨by have := HJ4.out; first | omega | exact Nat.le_refl _⟩, ⟨by (with_reducible repeat (first | refine blk_drewN ?_ _ | refine blk_drew ?_ | refine blk_alloc ?_ _)); exact BK414.out⟩, ⟨by (with_reducible repeat (first | refine blk_drewN ?_ _ | refine blk_drew ?_ | refine blk_alloc ?_ _)); exact BK415.out⟩, ⟨by (with_reducible repeat (first | refine blk_drewN ?_ _ | refine blk_drew ?_ | refine blk_alloc ?_ _)); exact BK419.out⟩, ⟨by (with_reducible repeat (first | refine blk_drewN ?_ _ | refine blk_drew ?_ | refine blk_alloc ?_ _)); exact BK422.out⟩, ⟨by repeat (first | (with_reducible first | exact HB.out | apply below_alloc | apply pw_below_drewN | apply below_drew1 | refine below_set ?_ GE414.out | refine below_set ?_ GE415.out | refine below_set ?_ GE419.out | refine below_set ?_ GE422.out) | exact HB.out)⟩⟩
          · rw [if_neg c32] at H
            have c32b0 : decide (t423 < 0) = false := decide_eq_false c32
            clear c32
            (first | rw [c32b0] | (simp only [i64_w, i32_w]; rw [c32b0]) | skip)
            by_cases c33 : t423 > a2
            · rw [if_pos c33] at H
              have c33b0 : decide (a2 < t423) = true := decide_eq_true c33
              clear c33
              have H' := Aside0.mk H
              clear H
              go_wp2
              go_meet
              case rel => exact ⟨_, (true), (by first | rfl | (simp; done) | (simp [*]; done)), H', ⟨by have := HJ4.out; first | omega | exact Nat.le_refl _⟩, ⟨by (with_reducible repeat (first | refine blk_drewN ?_ _ | refine blk_drew ?_ | refine blk_alloc ?_ _)); exact BK414.out⟩, ⟨by (with_reducible repeat (first | refine blk_drewN ?_ _ | refine blk_drew ?_ | refine blk_alloc ?_ _)); exact BK415.out⟩, ⟨by (with_reducible repeat (first | refine blk_drewN ?_ _ | refine blk_drew ?_ | refine blk_alloc ?_ _)); exact BK419.out⟩, ⟨by (with_reducible repeat (first | refine blk_drewN ?_ _ | refine blk_drew ?_ | refine blk_alloc ?_ _)); exact BK422.out⟩, ⟨by repeat (first | (with_reducible first | exact HB.out | apply below_alloc | apply pw_below_drewN | apply below_drew1 | refine below_set ?_ GE414.out | refine below_set ?_ GE415.out | refine below_set ?_ GE419.out | refine below_set ?_ GE422.out) | exact HB.out)⟩⟩
            · rw [if_neg c33] at H
              have c33b0 : decide (a2 < t423) = false := decide_eq_false c33
              clear c33
              have H' := Aside0.mk H
              clear H
              have hnb34 := NB419_414.out
              have hnc34 := NB414_419.out
              have hnb35 := NB419_415.out
              have hnc35 := NB415_419.out
              have hnb36 := NB419_422.out
              have hnc36 := NB422_419.out
              have hcz37_0 : w31.cell? ⟨gb419, 0, none⟩ = some (.int .u64 t417) := (blk_cell BK419.out 0).trans rfl
              have hcz37_1 : w31.cell? ⟨gb419, 1, none⟩ = some (.int .u64 t418) := (blk_cell BK419.out 1).trans rfl
              have hfz37_0 := blk_frozen BK419.out 0
              have hfz37_1 := blk_frozen BK419.out 1
              have hnb38 := NB422_414.out
              have hnc38 := NB414_422.out
              have hnb39 := NB422_415.out
              have hnc39 := NB415_422.out
              have hcz40_0 : w31.cell? ⟨gb422, 0, none⟩ = some (.int .u64 t420) := (blk_cell BK422.out 0).trans rfl
              have hcz40_1 : w31.cell? ⟨gb422, 1, none⟩ = some (.int .u64 t421) := (blk_cell BK422.out 1).trans rfl
              have hfz40_0 := blk_frozen BK422.out 0
              have hfz40_1 := blk_frozen BK422.out 1
              go_wp2
              go_meet
              case rel => exact ⟨_, (((t423 == a2) != (t417 == t420 && (t418 == t421)))), (by first | rfl | (simp; done) | (simp [*]; done)), H', ⟨by have := HJ4.out; first | omega | exact Nat.le_refl _⟩, ⟨by (with_reducible repeat (first | refine blk_drewN ?_ _ | refine blk_drew ?_ | refine blk_alloc ?_ _)); exact BK414.out⟩, ⟨by (with_reducible repeat (first | refine blk_drewN ?_ _ | refine blk_drew ?_ | refine blk_alloc ?_ _)); exact BK415.out⟩, ⟨by (with_reducible repeat (first | refine blk_drewN ?_ _ | refine blk_drew ?_ | refine blk_alloc ?_ _)); exact BK419.out⟩, ⟨by (with_reducible repeat (first | refine blk_drewN ?_ _ | refine blk_drew ?_ | refine blk_alloc ?_ _)); exact BK422.out⟩, ⟨by repeat (first | (with_reducible first | exact HB.out | apply below_alloc | apply pw_below_drewN | apply below_drew1 | refine below_set ?_ GE414.out | refine below_set ?_ GE415.out | refine below_set ?_ GE419.out | refine below_set ?_ GE422.out) | exact HB.out)⟩⟩
        case rest =>
          clear HC14
          try clear c1
          try clear c2
          try clear p2
          try clear c3
          try clear c6
          try clear c8
          try clear c9
          try clear c9b0
          try clear c10
          try clear c13
          try clear c15
          try clear c19
          try clear c20
          try clear c25
          try clear c26
          try clear c27
          try clear c32
          try clear c32b0
          try clear c33
          try clear c33b0
          try clear c34
          try clear c35
          try clear c36
          try clear c38
          try clear c39
          try clear hcz16_0
          try clear hcz16_1
          try clear hcz21_0
          try clear hcz21_1
          try clear hcz22_0
          try clear hcz22_1
          try clear hcz28_0
          try clear hcz28_1
          try clear hcz29_0
          try clear hcz29_1
          try clear hcz30_0
          try clear hcz30_1
          try clear hcz37_0
          try clear hcz37_1
          try clear hcz40_0
          try clear hcz40_1
          try clear hfz16_0
          try clear hfz16_1
          try clear hfz21_0
          try clear hfz21_1
          try clear hfz22_0
          try clear hfz22_1
          try clear hfz28_0
          try clear hfz28_1
          try clear hfz29_0
          try clear hfz29_1
          try clear hfz30_0
          try clear hfz30_1
          try clear hfz37_0
          try clear hfz37_1
          try clear hfz40_0
          try clear hfz40_1
          try clear p2
          obtain ⟨kq, x53_13, rfl, HA, HJ13, BK414, BK415, BK419, BK422, HB⟩ := hcut
          cases kq with
          | zero => exact absurd HA.out (by simp [turnoutlaw01_ValueOrder.j1])
          | succ kj13 =>
            have H := HA.out
            clear HA
            simp only [turnoutlaw01_ValueOrder.j1] at H
            by_cases c41 : x53_13 = true
            · subst c41
              have H1 : (some false) = some r := by rw [if_pos rfl] at H; exact H
              clear H
              have H := H1
              clear H1
              exact absurd ((Option.some.inj H).trans hrt.out) (by decide)
            · replace c41 := Bool.eq_false_iff.mpr c41
              subst c41
              have H1 : ((value_Mask.f kj13 a2 t423).bind fun bt424 => (if bt424.2.2 = 0 then ((value_And.f t417 t418 bt424.1 bt424.2.1).bind fun bt428 => ((value_And.f t420 t421 bt424.1 bt424.2.1).bind fun bt430 => (turnoutlaw01_ValueOrder.j2 kj13 a2 t416 t423 (!(bt428.1 == bt430.1) || (!(bt428.2 == bt430.2))) t417 t418 t420 t421))) else (turnoutlaw01_ValueOrder.j2 kj13 a2 t416 t423 true t417 t418 t420 t421))) = some r := by rw [if_neg (show ¬ (false = true) by decide)] at H; exact H
              clear H
              have H := H1
              clear H1
              replace H := Option.bind_eq_some_iff.mp H
              obtain ⟨⟨t424, t425, t426⟩, A420, H⟩ := H
              replace H : (if t426 = 0 then ((value_And.f t417 t418 t424 t425).bind fun bt428 => ((value_And.f t420 t421 t424 t425).bind fun bt430 => (turnoutlaw01_ValueOrder.j2 kj13 a2 t416 t423 (!(bt428.1 == bt430.1) || (!(bt428.2 == bt430.2))) t417 t418 t420 t421))) else (turnoutlaw01_ValueOrder.j2 kj13 a2 t416 t423 true t417 t418 t420 t421)) = some r := H
              have A42 := Aside0.mk A420
              clear A420
              have HC43 := Aside0.mk H
              clear H
              go_upto_region 10 with (first | ((with_reducible refine gate_callee (f := 21) rfl ?_); refine goesL_ (some 57) rfl rfl Tryd.func21 (by kernel_rfl) rfl #[.int .i64 a2, .int .i64 t423] rfl (by (try simp only [List.map_toArray, List.map_cons, List.map_nil]); first | done | rfl | (simp only [List.length_drop, List.length_take]; rfl)) ?_; (with_reducible refine (value_Mask.calls kj13 a2 t423 t424 t425 t426 _ A42.out).mono ?_); rintro e w44 ⟨rfl, hb⟩; refine ⟨_, rfl, ?_⟩; have n0_ := Aside0.mk (blk_below (g := gb414) (o := .cells #[.int .u64 a0_0, .int .u64 a0_1] 24 (0, 0)) (by (with_reducible repeat (first | refine blk_drewN ?_ _ | refine blk_drew ?_ | refine blk_alloc ?_ _)); exact BK414.out) hb); have n1_ := Aside0.mk (blk_below (g := gb415) (o := .cells #[.int .u64 a1_0, .int .u64 a1_1] 24 (0, 0)) (by (with_reducible repeat (first | refine blk_drewN ?_ _ | refine blk_drew ?_ | refine blk_alloc ?_ _)); exact BK415.out) hb); have n2_ := Aside0.mk (blk_below (g := gb419) (o := .cells #[.int .u64 t417, .int .u64 t418] 24 (0, 0)) (by (with_reducible repeat (first | refine blk_drewN ?_ _ | refine blk_drew ?_ | refine blk_alloc ?_ _)); exact BK419.out) hb); have n3_ := Aside0.mk (blk_below (g := gb422) (o := .cells #[.int .u64 t420, .int .u64 t421] 24 (0, 0)) (by (with_reducible repeat (first | refine blk_drewN ?_ _ | refine blk_drew ?_ | refine blk_alloc ?_ _)); exact BK422.out) hb); have n4_ := Aside0.mk (below_step (by repeat (first | (with_reducible first | exact HB.out | apply below_alloc | apply pw_below_drewN | apply below_drew1 | refine below_set ?_ GE414.out | refine below_set ?_ GE415.out | refine below_set ?_ GE419.out | refine below_set ?_ GE422.out) | exact HB.out)) hb); clear BK414; clear BK415; clear BK419; clear BK422; clear HB; have BK414 := n0_; have BK415 := n1_; have BK419 := n2_; have BK422 := n3_; have HB := n4_; clear n0_ n1_ n2_ n3_ n4_; (try clear hb); (try clear hb2); (try clear hk); (try clear hi)) | ((with_reducible refine gate_dst (N := 11) rfl ?_); refine box_event ?hg (N := 11) ?hd (cs := #[.int .u64 0, .int .u64 0]) (t := 24) ?hr ?_; (case hd => rfl); (case hg => rfl); (case hr => first | (go_simp; done) | (go_simp; rfl)); intro gb427 hg w45 hbox hb; have n0_ := Aside0.mk (blk_below (g := gb414) (o := .cells #[.int .u64 a0_0, .int .u64 a0_1] 24 (0, 0)) (by (with_reducible repeat (first | refine blk_drewN ?_ _ | refine blk_drew ?_ | refine blk_alloc ?_ _)); exact BK414.out) hb); have n1_ := Aside0.mk (blk_below (g := gb415) (o := .cells #[.int .u64 a1_0, .int .u64 a1_1] 24 (0, 0)) (by (with_reducible repeat (first | refine blk_drewN ?_ _ | refine blk_drew ?_ | refine blk_alloc ?_ _)); exact BK415.out) hb); have n2_ := Aside0.mk (blk_below (g := gb419) (o := .cells #[.int .u64 t417, .int .u64 t418] 24 (0, 0)) (by (with_reducible repeat (first | refine blk_drewN ?_ _ | refine blk_drew ?_ | refine blk_alloc ?_ _)); exact BK419.out) hb); have n3_ := Aside0.mk (blk_below (g := gb422) (o := .cells #[.int .u64 t420, .int .u64 t421] 24 (0, 0)) (by (with_reducible repeat (first | refine blk_drewN ?_ _ | refine blk_drew ?_ | refine blk_alloc ?_ _)); exact BK422.out) hb); have n4_ := Aside0.mk (below_step (by repeat (first | (with_reducible first | exact HB.out | apply below_alloc | apply pw_below_drewN | apply below_drew1 | refine below_set ?_ GE414.out | refine below_set ?_ GE415.out | refine below_set ?_ GE419.out | refine below_set ?_ GE422.out) | exact HB.out)) hb); have n5_ := Aside0.mk (hbox); have n6_ := Aside0.mk ((by rw [hg]; exact (below_size (by repeat (first | (with_reducible first | exact HB.out | apply below_alloc | apply pw_below_drewN | apply below_drew1 | refine below_set ?_ GE414.out | refine below_set ?_ GE415.out | refine below_set ?_ GE419.out | refine below_set ?_ GE422.out) | exact HB.out))) : w.heap.size ≤ gb427)); have n7_ := Aside0.mk ((by rw [hg]; exact (below_size (by repeat (first | (with_reducible first | exact HB.out | apply below_alloc | apply pw_below_drewN | apply below_drew1 | refine below_set ?_ GE414.out | refine below_set ?_ GE415.out | refine below_set ?_ GE419.out | refine below_set ?_ GE422.out) | exact HB.out))) : w.heap.size ≤ gb427)); have n8_ := Aside0.mk ((by rw [hg]; exact Nat.ne_of_lt (blk_lt (g := gb414) (o := .cells #[.int .u64 a0_0, .int .u64 a0_1] 24 (0, 0)) (by (with_reducible repeat (first | refine blk_drewN ?_ _ | refine blk_drew ?_ | refine blk_alloc ?_ _)); exact BK414.out)) : gb414 ≠ gb427)); have n9_ := Aside0.mk ((by rw [hg]; exact Nat.ne_of_gt (blk_lt (g := gb414) (o := .cells #[.int .u64 a0_0, .int .u64 a0_1] 24 (0, 0)) (by (with_reducible repeat (first | refine blk_drewN ?_ _ | refine blk_drew ?_ | refine blk_alloc ?_ _)); exact BK414.out)) : gb427 ≠ gb414)); have n10_ := Aside0.mk ((by rw [hg]; exact Nat.ne_of_lt (blk_lt (g := gb415) (o := .cells #[.int .u64 a1_0, .int .u64 a1_1] 24 (0, 0)) (by (with_reducible repeat (first | refine blk_drewN ?_ _ | refine blk_drew ?_ | refine blk_alloc ?_ _)); exact BK415.out)) : gb415 ≠ gb427)); have n11_ := Aside0.mk ((by rw [hg]; exact Nat.ne_of_gt (blk_lt (g := gb415) (o := .cells #[.int .u64 a1_0, .int .u64 a1_1] 24 (0, 0)) (by (with_reducible repeat (first | refine blk_drewN ?_ _ | refine blk_drew ?_ | refine blk_alloc ?_ _)); exact BK415.out)) : gb427 ≠ gb415)); have n12_ := Aside0.mk ((by rw [hg]; exact Nat.ne_of_lt (blk_lt (g := gb419) (o := .cells #[.int .u64 t417, .int .u64 t418] 24 (0, 0)) (by (with_reducible repeat (first | refine blk_drewN ?_ _ | refine blk_drew ?_ | refine blk_alloc ?_ _)); exact BK419.out)) : gb419 ≠ gb427)); have n13_ := Aside0.mk ((by rw [hg]; exact Nat.ne_of_gt (blk_lt (g := gb419) (o := .cells #[.int .u64 t417, .int .u64 t418] 24 (0, 0)) (by (with_reducible repeat (first | refine blk_drewN ?_ _ | refine blk_drew ?_ | refine blk_alloc ?_ _)); exact BK419.out)) : gb427 ≠ gb419)); have n14_ := Aside0.mk ((by rw [hg]; exact Nat.ne_of_lt (blk_lt (g := gb422) (o := .cells #[.int .u64 t420, .int .u64 t421] 24 (0, 0)) (by (with_reducible repeat (first | refine blk_drewN ?_ _ | refine blk_drew ?_ | refine blk_alloc ?_ _)); exact BK422.out)) : gb422 ≠ gb427)); have n15_ := Aside0.mk ((by rw [hg]; exact Nat.ne_of_gt (blk_lt (g := gb422) (o := .cells #[.int .u64 t420, .int .u64 t421] 24 (0, 0)) (by (with_reducible repeat (first | refine blk_drewN ?_ _ | refine blk_drew ?_ | refine blk_alloc ?_ _)); exact BK422.out)) : gb427 ≠ gb422)); clear BK414; clear BK415; clear BK419; clear BK422; clear HB; have BK414 := n0_; have BK415 := n1_; have BK419 := n2_; have BK422 := n3_; have HB := n4_; have BK427 := n5_; have GW427 := n6_; have GE427 := n7_; have NB414_427 := n8_; have NB427_414 := n9_; have NB415_427 := n10_; have NB427_415 := n11_; have NB419_427 := n12_; have NB427_419 := n13_; have NB422_427 := n14_; have NB427_422 := n15_; clear n0_ n1_ n2_ n3_ n4_ n5_ n6_ n7_ n8_ n9_ n10_ n11_ n12_ n13_ n14_ n15_; clear hb hbox hg; have hnb46 := NB427_414.out; have hnc46 := NB414_427.out; have hnb47 := NB427_415.out; have hnc47 := NB415_427.out; have hnb48 := NB427_419.out; have hnc48 := NB419_427.out; have hnb49 := NB427_422.out; have hnc49 := NB422_427.out; have hcz50_0 : w45.cell? ⟨gb427, 0, none⟩ = some (.int .u64 0) := (blk_cell BK427.out 0).trans rfl; have hcz50_1 : w45.cell? ⟨gb427, 1, none⟩ = some (.int .u64 0) := (blk_cell BK427.out 1).trans rfl; have hfz50_0 := blk_frozen BK427.out 0; have hfz50_1 := blk_frozen BK427.out 1))
              (try simp only [Act.put, List.setIfInBounds_toArray, List.set_cons_zero, List.set_cons_succ])
              go_cut [70] (fun v70 wc => ∃ (kq : Nat) (x70_42 : Bool), v70 = .bool x70_42 ∧ Aside0 (turnoutlaw01_ValueOrder.j2 kq a2 t416 t423 x70_42 t417 t418 t420 t421 = some r) ∧ Aside0 (kq ≤ kj13) ∧ Aside0 (wc.heap[gb414]? = some (.cells #[.int .u64 a0_0, .int .u64 a0_1] 24 (0, 0))) ∧ Aside0 (wc.heap[gb415]? = some (.cells #[.int .u64 a1_0, .int .u64 a1_1] 24 (0, 0))) ∧ Aside0 (wc.heap[gb419]? = some (.cells #[.int .u64 t417, .int .u64 t418] 24 (0, 0))) ∧ Aside0 (wc.heap[gb422]? = some (.cells #[.int .u64 t420, .int .u64 t421] 24 (0, 0))) ∧ Aside0 (wc.heap[gb427]? = some (.cells #[.int .u64 t424, .int .u64 t425] 24 (0, 0))) ∧ Aside0 (Below w.heap.size w wc))
              case first =>
                have H := HC43.out
                clear HC43
                by_cases c51 : t426 = 0
                · rw [if_pos c51] at H
                  have c51b0 : (t426 == 0) = true := beq_iff_eq.mpr c51
                  have c51b1 : (t426 != 0) = false := bne_eq_false_iff_eq.mpr c51
                  clear c51
                  (first | rw [c51b0] | (simp only [i64_w, i32_w]; rw [c51b0]) | skip)
                  replace H := Option.bind_eq_some_iff.mp H
                  obtain ⟨⟨t428, t429⟩, A520, H⟩ := H
                  replace H : ((value_And.f t420 t421 t424 t425).bind fun bt430 => (turnoutlaw01_ValueOrder.j2 kj13 a2 t416 t423 (!(t428 == bt430.1) || (!(t429 == bt430.2))) t417 t418 t420 t421)) = some r := H
                  have A52 := Aside0.mk A520
                  clear A520
                  replace H := Option.bind_eq_some_iff.mp H
                  obtain ⟨⟨t430, t431⟩, A530, H⟩ := H
                  replace H : (turnoutlaw01_ValueOrder.j2 kj13 a2 t416 t423 (!(t428 == t430) || (!(t429 == t431))) t417 t418 t420 t421) = some r := H
                  have A53 := Aside0.mk A530
                  clear A530
                  have H' := Aside0.mk H
                  clear H
                  try go_wp2
                  have n0_ : Aside0 (((w45.setCell ⟨gb427, 0, none⟩ (.int .u64 t424)).setCell ⟨gb427, 1, none⟩ (.int .u64 t425)).heap[gb414]? = some (.cells #[.int .u64 a0_0, .int .u64 a0_1] 24 (0, 0))) := ⟨by (with_reducible repeat (first | refine blk_drewN ?_ _ | refine blk_drew ?_ | refine blk_alloc ?_ _)); refine blk_far ?_ NB414_427.out _; (with_reducible repeat (first | refine blk_drewN ?_ _ | refine blk_drew ?_ | refine blk_alloc ?_ _)); refine blk_far ?_ NB414_427.out _; (with_reducible repeat (first | refine blk_drewN ?_ _ | refine blk_drew ?_ | refine blk_alloc ?_ _)); exact BK414.out⟩
                  have n1_ : Aside0 (((w45.setCell ⟨gb427, 0, none⟩ (.int .u64 t424)).setCell ⟨gb427, 1, none⟩ (.int .u64 t425)).heap[gb415]? = some (.cells #[.int .u64 a1_0, .int .u64 a1_1] 24 (0, 0))) := ⟨by (with_reducible repeat (first | refine blk_drewN ?_ _ | refine blk_drew ?_ | refine blk_alloc ?_ _)); refine blk_far ?_ NB415_427.out _; (with_reducible repeat (first | refine blk_drewN ?_ _ | refine blk_drew ?_ | refine blk_alloc ?_ _)); refine blk_far ?_ NB415_427.out _; (with_reducible repeat (first | refine blk_drewN ?_ _ | refine blk_drew ?_ | refine blk_alloc ?_ _)); exact BK415.out⟩
                  have n2_ : Aside0 (((w45.setCell ⟨gb427, 0, none⟩ (.int .u64 t424)).setCell ⟨gb427, 1, none⟩ (.int .u64 t425)).heap[gb419]? = some (.cells #[.int .u64 t417, .int .u64 t418] 24 (0, 0))) := ⟨by (with_reducible repeat (first | refine blk_drewN ?_ _ | refine blk_drew ?_ | refine blk_alloc ?_ _)); refine blk_far ?_ NB419_427.out _; (with_reducible repeat (first | refine blk_drewN ?_ _ | refine blk_drew ?_ | refine blk_alloc ?_ _)); refine blk_far ?_ NB419_427.out _; (with_reducible repeat (first | refine blk_drewN ?_ _ | refine blk_drew ?_ | refine blk_alloc ?_ _)); exact BK419.out⟩
                  have n3_ : Aside0 (((w45.setCell ⟨gb427, 0, none⟩ (.int .u64 t424)).setCell ⟨gb427, 1, none⟩ (.int .u64 t425)).heap[gb422]? = some (.cells #[.int .u64 t420, .int .u64 t421] 24 (0, 0))) := ⟨by (with_reducible repeat (first | refine blk_drewN ?_ _ | refine blk_drew ?_ | refine blk_alloc ?_ _)); refine blk_far ?_ NB422_427.out _; (with_reducible repeat (first | refine blk_drewN ?_ _ | refine blk_drew ?_ | refine blk_alloc ?_ _)); refine blk_far ?_ NB422_427.out _; (with_reducible repeat (first | refine blk_drewN ?_ _ | refine blk_drew ?_ | refine blk_alloc ?_ _)); exact BK422.out⟩
                  have n4_ : Aside0 (((w45.setCell ⟨gb427, 0, none⟩ (.int .u64 t424)).setCell ⟨gb427, 1, none⟩ (.int .u64 t425)).heap[gb427]? = some (.cells #[.int .u64 t424, .int .u64 t425] 24 (0, 0))) := ⟨by (with_reducible repeat (first | refine blk_drewN ?_ _ | refine blk_drew ?_ | refine blk_alloc ?_ _)); refine blk_put (cs := #[.int .u64 t424, .int .u64 0]) ?_ 1 _ rfl; (with_reducible repeat (first | refine blk_drewN ?_ _ | refine blk_drew ?_ | refine blk_alloc ?_ _)); refine blk_put (cs := #[.int .u64 0, .int .u64 0]) ?_ 0 _ rfl; (with_reducible repeat (first | refine blk_drewN ?_ _ | refine blk_drew ?_ | refine blk_alloc ?_ _)); exact BK427.out⟩
                  have n5_ : Aside0 (Below w.heap.size w ((w45.setCell ⟨gb427, 0, none⟩ (.int .u64 t424)).setCell ⟨gb427, 1, none⟩ (.int .u64 t425))) := ⟨by repeat (first | (with_reducible first | exact HB.out | apply below_alloc | apply pw_below_drewN | apply below_drew1 | refine below_set ?_ GE414.out | refine below_set ?_ GE415.out | refine below_set ?_ GE419.out | refine below_set ?_ GE422.out | refine below_set ?_ GE427.out) | exact HB.out)⟩
                  (try clear BK414)
                  (try clear BK415)
                  (try clear BK419)
                  (try clear BK422)
                  (try clear BK427)
                  (try clear HB)
                  generalize ((w45.setCell ⟨gb427, 0, none⟩ (.int .u64 t424)).setCell ⟨gb427, 1, none⟩ (.int .u64 t425)) = w54 at n0_ n1_ n2_ n3_ n4_ n5_ ⊢
                  have BK414 := n0_
                  have BK415 := n1_
                  have BK419 := n2_
                  have BK422 := n3_
                  have BK427 := n4_
                  have HB := n5_
                  clear n0_ n1_ n2_ n3_ n4_ n5_
                  have n0_ := Aside0.mk (blk_drew BK414.out)
                  have n1_ := Aside0.mk (blk_drew BK415.out)
                  have n2_ := Aside0.mk (blk_drew BK419.out)
                  have n3_ := Aside0.mk (blk_drew BK422.out)
                  have n4_ := Aside0.mk (blk_drew BK427.out)
                  have n5_ := Aside0.mk (below_drew1 HB.out)
                  clear BK414
                  clear BK415
                  clear BK419
                  clear BK422
                  clear BK427
                  clear HB
                  have BK414 := n0_
                  have BK415 := n1_
                  have BK419 := n2_
                  have BK422 := n3_
                  have BK427 := n4_
                  have HB := n5_
                  clear n0_ n1_ n2_ n3_ n4_ n5_
                  refine start_ (n := 11) (S := fun w' => w'.cell? ⟨gb419, 0, none⟩ = some (.int .u64 t417) ∧ w'.cell? ⟨gb419, 1, none⟩ = some (.int .u64 t418) ∧ w'.cell? ⟨gb427, 0, none⟩ = some (.int .u64 t424) ∧ w'.cell? ⟨gb427, 1, none⟩ = some (.int .u64 t425) ∧ w'.cell? ⟨gb422, 0, none⟩ = some (.int .u64 t420) ∧ w'.cell? ⟨gb422, 1, none⟩ = some (.int .u64 t421)) (ds := []) #[false, false, false, false, false, false, false, false, false, false, false] (by kernel_rfl) rfl rfl ⟨(blk_cell BK419.out 0).trans rfl, (blk_cell BK419.out 1).trans rfl, (blk_cell BK427.out 0).trans rfl, (blk_cell BK427.out 1).trans rfl, (blk_cell BK422.out 0).trans rfl, (blk_cell BK422.out 1).trans rfl⟩ (fun hHeld => ?_); refine with_tabW turnoutlaw01_ValueOrder.tab10 turnoutlaw01_ValueOrder.bits10 (fun HT_ HW_ => ?_)
                  generalize w54.drew = w55 at BK414 BK415 BK419 BK422 BK427 HB hHeld ⊢
                  refine pure_ (i := 0) (N := some 60) (v := ?_) (a' := ?_) #[true, false, false, false, false, false, false, false, false, false, false] rfl rfl (any_of HT_.out (by kernel_rfl)) (fun _ _ _ h => h) (Or.inl ⟨by rfl, ?_⟩) ?_ ?_
                  rotate_left
                  · intro w'
                    go_simp
                    with_reducible rfl
                  rotate_left
                  · simp only [Act.put, List.setIfInBounds_toArray, List.set_cons_zero, List.set_cons_succ, i64_w, i32_w]
                    rfl
                  refine pure_ (i := 1) (N := some 61) (v := ?_) (a' := ?_) #[true, true, false, false, false, false, false, false, false, false, false] rfl rfl (any_of HT_.out (by kernel_rfl)) (fun _ _ _ h => h) (Or.inl ⟨by rfl, ?_⟩) ?_ ?_
                  rotate_left
                  · intro w'
                    go_simp
                    with_reducible rfl
                  rotate_left
                  · simp only [Act.put, List.setIfInBounds_toArray, List.set_cons_zero, List.set_cons_succ, i64_w, i32_w]
                    rfl
                  refine pure_ (i := 2) (N := some 62) (v := ?_) (a' := ?_) #[true, true, true, false, false, false, false, false, false, false, false] rfl rfl (any_of HT_.out (by kernel_rfl)) (fun _ _ _ h => h) (Or.inl ⟨by rfl, ?_⟩) ?_ ?_
                  rotate_left
                  · intro w'
                    go_simp
                    with_reducible rfl
                  rotate_left
                  · simp only [Act.put, List.setIfInBounds_toArray, List.set_cons_zero, List.set_cons_succ, i64_w, i32_w]
                    rfl
                  refine take_ (i := 3) (N := some 63) (v := ?_) (a' := ?_) #[true, true, true, true, false, false, false, false, false, false, false] rfl rfl (take_ofW HT_.out HW_.out (by kernel_rfl)) (fun _ _ _ h => h) (Or.inl ⟨by rfl, ?_⟩) hHeld ?_ ?_
                  rotate_left
                  · rintro w' ⟨s0, s1, s2, s3, s4, s5⟩
                    go_simp
                    with_reducible rfl
                  rotate_left
                  · simp only [Act.put, List.setIfInBounds_toArray, List.set_cons_zero, List.set_cons_succ, i64_w, i32_w]
                    rfl
                  refine take_ (i := 4) (N := some 64) (v := ?_) (a' := ?_) #[true, true, true, true, true, false, false, false, false, false, false] rfl rfl (take_ofW HT_.out HW_.out (by kernel_rfl)) (fun _ _ _ h => h) (Or.inl ⟨by rfl, ?_⟩) hHeld ?_ ?_
                  rotate_left
                  · rintro w' ⟨s0, s1, s2, s3, s4, s5⟩
                    go_simp
                    with_reducible rfl
                  rotate_left
                  · simp only [Act.put, List.setIfInBounds_toArray, List.set_cons_zero, List.set_cons_succ, i64_w, i32_w]
                    rfl
                  refine take_ (i := 6) (N := some 66) (v := ?_) (a' := ?_) #[true, true, true, true, true, false, true, false, false, false, false] rfl rfl (take_ofW HT_.out HW_.out (by kernel_rfl)) (fun _ _ _ h => h) (Or.inl ⟨by rfl, ?_⟩) hHeld ?_ ?_
                  rotate_left
                  · rintro w' ⟨s0, s1, s2, s3, s4, s5⟩
                    go_simp
                    with_reducible rfl
                  rotate_left
                  · simp only [Act.put, List.setIfInBounds_toArray, List.set_cons_zero, List.set_cons_succ, i64_w, i32_w]
                    rfl
                  refine take_ (i := 7) (N := some 67) (v := ?_) (a' := ?_) #[true, true, true, true, true, false, true, true, false, false, false] rfl rfl (take_ofW HT_.out HW_.out (by kernel_rfl)) (fun _ _ _ h => h) (Or.inl ⟨by rfl, ?_⟩) hHeld ?_ ?_
                  rotate_left
                  · rintro w' ⟨s0, s1, s2, s3, s4, s5⟩
                    go_simp
                    with_reducible rfl
                  rotate_left
                  · simp only [Act.put, List.setIfInBounds_toArray, List.set_cons_zero, List.set_cons_succ, i64_w, i32_w]
                    rfl
                  refine one_ (i := 5) (N := some 65) #[true, true, true, true, true, true, true, true, false, false, false] rfl rfl (one_of HT_.out (by kernel_rfl)) (by decide) (fun K hK => ?_)
                  refine goes_ Tryd.func22 (by kernel_rfl) rfl #[.agg #[.int .u64 t417, .int .u64 t418], .agg #[.int .u64 t424, .int .u64 t425]] (by rfl) rfl rfl (by (try simp only [List.map_toArray, List.map_cons, List.map_nil]); first | done | rfl | (simp only [List.length_drop, List.length_take]; rfl)) ?_
                  with_reducible refine (value_And.calls t417 t418 t424 t425 t428 t429 _ A52.out).mono ?_
                  rintro e w56 ⟨rfl, hb⟩
                  refine ⟨_, rfl, ?_⟩
                  have n0_ := Aside0.mk (blk_below (g := gb414) (o := .cells #[.int .u64 a0_0, .int .u64 a0_1] 24 (0, 0)) (by (with_reducible repeat (first | refine blk_drewN ?_ _ | refine blk_drew ?_ | refine blk_alloc ?_ _)); exact BK414.out) hb)
                  have n1_ := Aside0.mk (blk_below (g := gb415) (o := .cells #[.int .u64 a1_0, .int .u64 a1_1] 24 (0, 0)) (by (with_reducible repeat (first | refine blk_drewN ?_ _ | refine blk_drew ?_ | refine blk_alloc ?_ _)); exact BK415.out) hb)
                  have n2_ := Aside0.mk (blk_below (g := gb419) (o := .cells #[.int .u64 t417, .int .u64 t418] 24 (0, 0)) (by (with_reducible repeat (first | refine blk_drewN ?_ _ | refine blk_drew ?_ | refine blk_alloc ?_ _)); exact BK419.out) hb)
                  have n3_ := Aside0.mk (blk_below (g := gb422) (o := .cells #[.int .u64 t420, .int .u64 t421] 24 (0, 0)) (by (with_reducible repeat (first | refine blk_drewN ?_ _ | refine blk_drew ?_ | refine blk_alloc ?_ _)); exact BK422.out) hb)
                  have n4_ := Aside0.mk (blk_below (g := gb427) (o := .cells #[.int .u64 t424, .int .u64 t425] 24 (0, 0)) (by (with_reducible repeat (first | refine blk_drewN ?_ _ | refine blk_drew ?_ | refine blk_alloc ?_ _)); exact BK427.out) hb)
                  have n5_ := Aside0.mk (below_step (by repeat (first | (with_reducible first | exact HB.out | apply below_alloc | apply pw_below_drewN | apply below_drew1 | refine below_set ?_ GE414.out | refine below_set ?_ GE415.out | refine below_set ?_ GE419.out | refine below_set ?_ GE422.out | refine below_set ?_ GE427.out) | exact HB.out)) hb)
                  clear BK414
                  clear BK415
                  clear BK419
                  clear BK422
                  clear BK427
                  clear HB
                  have BK414 := n0_
                  have BK415 := n1_
                  have BK419 := n2_
                  have BK422 := n3_
                  have BK427 := n4_
                  have HB := n5_
                  clear n0_ n1_ n2_ n3_ n4_ n5_
                  (try clear hb)
                  (try clear hb2)
                  (try clear hk)
                  (try clear hi)
                  refine hK.out _ _ ⟨(blk_cell BK419.out 0).trans rfl, (blk_cell BK419.out 1).trans rfl, (blk_cell BK427.out 0).trans rfl, (blk_cell BK427.out 1).trans rfl, (blk_cell BK422.out 0).trans rfl, (blk_cell BK422.out 1).trans rfl⟩ (fun hHeld => ?_)
                  clear hK K
                  refine norm_ (a' := ?_) ?_ ?_
                  rotate_left
                  · show Act.put _ (some 65) _ = _
                    simp only [Act.put, List.setIfInBounds_toArray, List.set_cons_zero, List.set_cons_succ, i64_w, i32_w]
                    rfl
                  refine one_ (i := 8) (N := some 68) #[true, true, true, true, true, true, true, true, true, false, false] rfl rfl (one_of HT_.out (by kernel_rfl)) (by decide) (fun K hK => ?_)
                  refine goes_ Tryd.func22 (by kernel_rfl) rfl #[.agg #[.int .u64 t420, .int .u64 t421], .agg #[.int .u64 t424, .int .u64 t425]] (by rfl) rfl rfl (by (try simp only [List.map_toArray, List.map_cons, List.map_nil]); first | done | rfl | (simp only [List.length_drop, List.length_take]; rfl)) ?_
                  with_reducible refine (value_And.calls t420 t421 t424 t425 t430 t431 _ A53.out).mono ?_
                  rintro e w57 ⟨rfl, hb⟩
                  refine ⟨_, rfl, ?_⟩
                  have n0_ := Aside0.mk (blk_below (g := gb414) (o := .cells #[.int .u64 a0_0, .int .u64 a0_1] 24 (0, 0)) (by (with_reducible repeat (first | refine blk_drewN ?_ _ | refine blk_drew ?_ | refine blk_alloc ?_ _)); exact BK414.out) hb)
                  have n1_ := Aside0.mk (blk_below (g := gb415) (o := .cells #[.int .u64 a1_0, .int .u64 a1_1] 24 (0, 0)) (by (with_reducible repeat (first | refine blk_drewN ?_ _ | refine blk_drew ?_ | refine blk_alloc ?_ _)); exact BK415.out) hb)
                  have n2_ := Aside0.mk (blk_below (g := gb419) (o := .cells #[.int .u64 t417, .int .u64 t418] 24 (0, 0)) (by (with_reducible repeat (first | refine blk_drewN ?_ _ | refine blk_drew ?_ | refine blk_alloc ?_ _)); exact BK419.out) hb)
                  have n3_ := Aside0.mk (blk_below (g := gb422) (o := .cells #[.int .u64 t420, .int .u64 t421] 24 (0, 0)) (by (with_reducible repeat (first | refine blk_drewN ?_ _ | refine blk_drew ?_ | refine blk_alloc ?_ _)); exact BK422.out) hb)
                  have n4_ := Aside0.mk (blk_below (g := gb427) (o := .cells #[.int .u64 t424, .int .u64 t425] 24 (0, 0)) (by (with_reducible repeat (first | refine blk_drewN ?_ _ | refine blk_drew ?_ | refine blk_alloc ?_ _)); exact BK427.out) hb)
                  have n5_ := Aside0.mk (below_step (by repeat (first | (with_reducible first | exact HB.out | apply below_alloc | apply pw_below_drewN | apply below_drew1 | refine below_set ?_ GE414.out | refine below_set ?_ GE415.out | refine below_set ?_ GE419.out | refine below_set ?_ GE422.out | refine below_set ?_ GE427.out) | exact HB.out)) hb)
                  clear BK414
                  clear BK415
                  clear BK419
                  clear BK422
                  clear BK427
                  clear HB
                  have BK414 := n0_
                  have BK415 := n1_
                  have BK419 := n2_
                  have BK422 := n3_
                  have BK427 := n4_
                  have HB := n5_
                  clear n0_ n1_ n2_ n3_ n4_ n5_
                  (try clear hb)
                  (try clear hb2)
                  (try clear hk)
                  (try clear hi)
                  refine hK.out _ _ ⟨(blk_cell BK419.out 0).trans rfl, (blk_cell BK419.out 1).trans rfl, (blk_cell BK427.out 0).trans rfl, (blk_cell BK427.out 1).trans rfl, (blk_cell BK422.out 0).trans rfl, (blk_cell BK422.out 1).trans rfl⟩ (fun hHeld => ?_)
                  clear hK K
                  refine norm_ (a' := ?_) ?_ ?_
                  rotate_left
                  · show Act.put _ (some 68) _ = _
                    simp only [Act.put, List.setIfInBounds_toArray, List.set_cons_zero, List.set_cons_succ, i64_w, i32_w]
                    rfl
                  refine pure_ (i := 9) (N := some 69) (v := ?_) (a' := ?_) #[true, true, true, true, true, true, true, true, true, true, false] rfl rfl (any_of HT_.out (by kernel_rfl)) (fun _ _ _ h => h) (Or.inl ⟨by rfl, ?_⟩) ?_ ?_
                  rotate_left
                  · intro w'
                    go_simp
                    with_reducible rfl
                  rotate_left
                  · simp only [Act.put, List.setIfInBounds_toArray, List.set_cons_zero, List.set_cons_succ, i64_w, i32_w]
                    rfl
                  refine pure_ (i := 10) (N := some 70) (v := ?_) (a' := ?_) #[true, true, true, true, true, true, true, true, true, true, true] rfl rfl (any_of HT_.out (by kernel_rfl)) (fun _ _ _ h => h) (Or.inl ⟨by rfl, ?_⟩) ?_ ?_
                  rotate_left
                  · intro w'
                    go_simp
                    with_reducible rfl
                  rotate_left
                  · simp only [Act.put, List.setIfInBounds_toArray, List.set_cons_zero, List.set_cons_succ, i64_w, i32_w]
                    rfl
                  refine done_ (done_of HT_.out (by kernel_rfl)) ?_
                  try go_wp2
                  go_meet
                  case rel => exact ⟨_, ((!(t428 == t430) || (!(t429 == t431)))), (by first | rfl | (simp; done) | (simp [*]; done)), H', ⟨by have := HJ4.out; have := HJ13.out; first | omega | exact Nat.le_refl _⟩, ⟨by (with_reducible repeat (first | refine blk_drewN ?_ _ | refine blk_drew ?_ | refine blk_alloc ?_ _)); exact BK414.out⟩, ⟨by (with_reducible repeat (first | refine blk_drewN ?_ _ | refine blk_drew ?_ | refine blk_alloc ?_ _)); exact BK415.out⟩, ⟨by (with_reducible repeat (first | refine blk_drewN ?_ _ | refine blk_drew ?_ | refine blk_alloc ?_ _)); exact BK419.out⟩, ⟨by (with_reducible repeat (first | refine blk_drewN ?_ _ | refine blk_drew ?_ | refine blk_alloc ?_ _)); exact BK422.out⟩, ⟨by (with_reducible repeat (first | refine blk_drewN ?_ _ | refine blk_drew ?_ | refine blk_alloc ?_ _)); exact BK427.out⟩, ⟨by repeat (first | (with_reducible first | exact HB.out | apply below_alloc | apply pw_below_drewN | apply below_drew1 | refine below_set ?_ GE414.out | refine below_set ?_ GE415.out | refine below_set ?_ GE419.out | refine below_set ?_ GE422.out | refine below_set ?_ GE427.out) | exact HB.out)⟩⟩
                · rw [if_neg c51] at H
                  have c51b0 : (t426 == 0) = false := beq_eq_false_iff_ne.mpr c51
                  have c51b1 : (t426 != 0) = true := bne_iff_ne.mpr c51
                  (first | rw [c51b0] | (simp only [i64_w, i32_w]; rw [c51b0]) | skip)
                  have H' := Aside0.mk H
                  clear H
                  try go_wp2
                  have n0_ : Aside0 (((w45.setCell ⟨gb427, 0, none⟩ (.int .u64 t424)).setCell ⟨gb427, 1, none⟩ (.int .u64 t425)).heap[gb414]? = some (.cells #[.int .u64 a0_0, .int .u64 a0_1] 24 (0, 0))) := ⟨by (with_reducible repeat (first | refine blk_drewN ?_ _ | refine blk_drew ?_ | refine blk_alloc ?_ _)); refine blk_far ?_ NB414_427.out _; (with_reducible repeat (first | refine blk_drewN ?_ _ | refine blk_drew ?_ | refine blk_alloc ?_ _)); refine blk_far ?_ NB414_427.out _; (with_reducible repeat (first | refine blk_drewN ?_ _ | refine blk_drew ?_ | refine blk_alloc ?_ _)); exact BK414.out⟩
                  have n1_ : Aside0 (((w45.setCell ⟨gb427, 0, none⟩ (.int .u64 t424)).setCell ⟨gb427, 1, none⟩ (.int .u64 t425)).heap[gb415]? = some (.cells #[.int .u64 a1_0, .int .u64 a1_1] 24 (0, 0))) := ⟨by (with_reducible repeat (first | refine blk_drewN ?_ _ | refine blk_drew ?_ | refine blk_alloc ?_ _)); refine blk_far ?_ NB415_427.out _; (with_reducible repeat (first | refine blk_drewN ?_ _ | refine blk_drew ?_ | refine blk_alloc ?_ _)); refine blk_far ?_ NB415_427.out _; (with_reducible repeat (first | refine blk_drewN ?_ _ | refine blk_drew ?_ | refine blk_alloc ?_ _)); exact BK415.out⟩
                  have n2_ : Aside0 (((w45.setCell ⟨gb427, 0, none⟩ (.int .u64 t424)).setCell ⟨gb427, 1, none⟩ (.int .u64 t425)).heap[gb419]? = some (.cells #[.int .u64 t417, .int .u64 t418] 24 (0, 0))) := ⟨by (with_reducible repeat (first | refine blk_drewN ?_ _ | refine blk_drew ?_ | refine blk_alloc ?_ _)); refine blk_far ?_ NB419_427.out _; (with_reducible repeat (first | refine blk_drewN ?_ _ | refine blk_drew ?_ | refine blk_alloc ?_ _)); refine blk_far ?_ NB419_427.out _; (with_reducible repeat (first | refine blk_drewN ?_ _ | refine blk_drew ?_ | refine blk_alloc ?_ _)); exact BK419.out⟩
                  have n3_ : Aside0 (((w45.setCell ⟨gb427, 0, none⟩ (.int .u64 t424)).setCell ⟨gb427, 1, none⟩ (.int .u64 t425)).heap[gb422]? = some (.cells #[.int .u64 t420, .int .u64 t421] 24 (0, 0))) := ⟨by (with_reducible repeat (first | refine blk_drewN ?_ _ | refine blk_drew ?_ | refine blk_alloc ?_ _)); refine blk_far ?_ NB422_427.out _; (with_reducible repeat (first | refine blk_drewN ?_ _ | refine blk_drew ?_ | refine blk_alloc ?_ _)); refine blk_far ?_ NB422_427.out _; (with_reducible repeat (first | refine blk_drewN ?_ _ | refine blk_drew ?_ | refine blk_alloc ?_ _)); exact BK422.out⟩
                  have n4_ : Aside0 (((w45.setCell ⟨gb427, 0, none⟩ (.int .u64 t424)).setCell ⟨gb427, 1, none⟩ (.int .u64 t425)).heap[gb427]? = some (.cells #[.int .u64 t424, .int .u64 t425] 24 (0, 0))) := ⟨by (with_reducible repeat (first | refine blk_drewN ?_ _ | refine blk_drew ?_ | refine blk_alloc ?_ _)); refine blk_put (cs := #[.int .u64 t424, .int .u64 0]) ?_ 1 _ rfl; (with_reducible repeat (first | refine blk_drewN ?_ _ | refine blk_drew ?_ | refine blk_alloc ?_ _)); refine blk_put (cs := #[.int .u64 0, .int .u64 0]) ?_ 0 _ rfl; (with_reducible repeat (first | refine blk_drewN ?_ _ | refine blk_drew ?_ | refine blk_alloc ?_ _)); exact BK427.out⟩
                  have n5_ : Aside0 (Below w.heap.size w ((w45.setCell ⟨gb427, 0, none⟩ (.int .u64 t424)).setCell ⟨gb427, 1, none⟩ (.int .u64 t425))) := ⟨by repeat (first | (with_reducible first | exact HB.out | apply below_alloc | apply pw_below_drewN | apply below_drew1 | refine below_set ?_ GE414.out | refine below_set ?_ GE415.out | refine below_set ?_ GE419.out | refine below_set ?_ GE422.out | refine below_set ?_ GE427.out) | exact HB.out)⟩
                  (try clear BK414)
                  (try clear BK415)
                  (try clear BK419)
                  (try clear BK422)
                  (try clear BK427)
                  (try clear HB)
                  generalize ((w45.setCell ⟨gb427, 0, none⟩ (.int .u64 t424)).setCell ⟨gb427, 1, none⟩ (.int .u64 t425)) = w58 at n0_ n1_ n2_ n3_ n4_ n5_ ⊢
                  have BK414 := n0_
                  have BK415 := n1_
                  have BK419 := n2_
                  have BK422 := n3_
                  have BK427 := n4_
                  have HB := n5_
                  clear n0_ n1_ n2_ n3_ n4_ n5_
                  have n0_ := Aside0.mk (blk_drew BK414.out)
                  have n1_ := Aside0.mk (blk_drew BK415.out)
                  have n2_ := Aside0.mk (blk_drew BK419.out)
                  have n3_ := Aside0.mk (blk_drew BK422.out)
                  have n4_ := Aside0.mk (blk_drew BK427.out)
                  have n5_ := Aside0.mk (below_drew1 HB.out)
                  clear BK414
                  clear BK415
                  clear BK419
                  clear BK422
                  clear BK427
                  clear HB
                  have BK414 := n0_
                  have BK415 := n1_
                  have BK419 := n2_
                  have BK422 := n3_
                  have BK427 := n4_
                  have HB := n5_
                  clear n0_ n1_ n2_ n3_ n4_ n5_
                  refine start_ (n := 11) (S := fun w' => True) (ds := []) #[false, false, false, false, false, false, false, false, false, false, false] (by kernel_rfl) rfl rfl trivial (fun hHeld => ?_); refine with_tabW turnoutlaw01_ValueOrder.tab10 turnoutlaw01_ValueOrder.bits10 (fun HT_ HW_ => ?_)
                  generalize w58.drew = w59 at BK414 BK415 BK419 BK422 BK427 HB hHeld ⊢
                  refine pure_ (i := 0) (N := some 60) (v := ?_) (a' := ?_) #[true, false, false, false, false, false, false, false, false, false, false] rfl rfl (any_of HT_.out (by kernel_rfl)) (fun _ _ _ h => h) (Or.inl ⟨by rfl, ?_⟩) ?_ ?_
                  rotate_left
                  · intro w'
                    go_simp
                    with_reducible rfl
                  rotate_left
                  · simp only [Act.put, List.setIfInBounds_toArray, List.set_cons_zero, List.set_cons_succ, i64_w, i32_w]
                    rfl
                  refine pure_ (i := 1) (N := some 61) (v := ?_) (a' := ?_) #[true, true, false, false, false, false, false, false, false, false, false] rfl rfl (any_of HT_.out (by kernel_rfl)) (fun _ _ _ h => h) (Or.inl ⟨by rfl, ?_⟩) ?_ ?_
                  rotate_left
                  · intro w'
                    go_simp
                    with_reducible rfl
                  rotate_left
                  · simp only [Act.put, List.setIfInBounds_toArray, List.set_cons_zero, List.set_cons_succ, i64_w, i32_w]
                    rfl
                  refine pure_ (i := 2) (N := some 62) (v := ?_) (a' := ?_) #[true, true, true, false, false, false, false, false, false, false, false] rfl rfl (any_of HT_.out (by kernel_rfl)) (fun _ _ _ h => h) (Or.inl ⟨by rfl, ?_⟩) ?_ ?_
                  rotate_left
                  · intro w'
                    go_simp
                    with_reducible rfl
                  rotate_left
                  · simp only [Act.put, List.setIfInBounds_toArray, List.set_cons_zero, List.set_cons_succ, i64_w, i32_w]
                    rfl
                  refine pure_ (i := 3) (N := some 63) (v := undef) (a' := ?_) #[true, true, true, true, false, false, false, false, false, false, false] rfl rfl (any_of HT_.out (by kernel_rfl)) (fun _ _ _ h => h) (Or.inr ⟨by rfl, rfl⟩) ?_ ?_
                  rotate_left
                  · simp only [Act.put, List.setIfInBounds_toArray, List.set_cons_zero, List.set_cons_succ, i64_w, i32_w]
                    rfl
                  refine pure_ (i := 4) (N := some 64) (v := undef) (a' := ?_) #[true, true, true, true, true, false, false, false, false, false, false] rfl rfl (any_of HT_.out (by kernel_rfl)) (fun _ _ _ h => h) (Or.inr ⟨by rfl, rfl⟩) ?_ ?_
                  rotate_left
                  · simp only [Act.put, List.setIfInBounds_toArray, List.set_cons_zero, List.set_cons_succ, i64_w, i32_w]
                    rfl
                  refine pure_ (i := 5) (N := some 65) (v := undef) (a' := ?_) #[true, true, true, true, true, true, false, false, false, false, false] rfl rfl (any_of HT_.out (by kernel_rfl)) (fun _ _ _ h => h) (Or.inr ⟨by rfl, rfl⟩) ?_ ?_
                  rotate_left
                  · simp only [Act.put, List.setIfInBounds_toArray, List.set_cons_zero, List.set_cons_succ, i64_w, i32_w]
                    rfl
                  refine pure_ (i := 6) (N := some 66) (v := undef) (a' := ?_) #[true, true, true, true, true, true, true, false, false, false, false] rfl rfl (any_of HT_.out (by kernel_rfl)) (fun _ _ _ h => h) (Or.inr ⟨by rfl, rfl⟩) ?_ ?_
                  rotate_left
                  · simp only [Act.put, List.setIfInBounds_toArray, List.set_cons_zero, List.set_cons_succ, i64_w, i32_w]
                    rfl
                  refine pure_ (i := 7) (N := some 67) (v := undef) (a' := ?_) #[true, true, true, true, true, true, true, true, false, false, false] rfl rfl (any_of HT_.out (by kernel_rfl)) (fun _ _ _ h => h) (Or.inr ⟨by rfl, rfl⟩) ?_ ?_
                  rotate_left
                  · simp only [Act.put, List.setIfInBounds_toArray, List.set_cons_zero, List.set_cons_succ, i64_w, i32_w]
                    rfl
                  refine pure_ (i := 8) (N := some 68) (v := undef) (a' := ?_) #[true, true, true, true, true, true, true, true, true, false, false] rfl rfl (any_of HT_.out (by kernel_rfl)) (fun _ _ _ h => h) (Or.inr ⟨by rfl, rfl⟩) ?_ ?_
                  rotate_left
                  · simp only [Act.put, List.setIfInBounds_toArray, List.set_cons_zero, List.set_cons_succ, i64_w, i32_w]
                    rfl
                  refine pure_ (i := 9) (N := some 69) (v := undef) (a' := ?_) #[true, true, true, true, true, true, true, true, true, true, false] rfl rfl (any_of HT_.out (by kernel_rfl)) (fun _ _ _ h => h) (Or.inr ⟨by rfl, rfl⟩) ?_ ?_
                  rotate_left
                  · simp only [Act.put, List.setIfInBounds_toArray, List.set_cons_zero, List.set_cons_succ, i64_w, i32_w]
                    rfl
                  refine pure_ (i := 10) (N := some 70) (v := ?_) (a' := ?_) #[true, true, true, true, true, true, true, true, true, true, true] rfl rfl (any_of HT_.out (by kernel_rfl)) (fun _ _ _ h => h) (Or.inl ⟨by rfl, ?_⟩) ?_ ?_
                  rotate_left
                  · intro w'
                    go_simp
                    with_reducible rfl
                  rotate_left
                  · simp only [Act.put, List.setIfInBounds_toArray, List.set_cons_zero, List.set_cons_succ, i64_w, i32_w]
                    rfl
                  refine done_ (done_of HT_.out (by kernel_rfl)) ?_
                  try go_wp2
                  go_meet
                  case rel => exact ⟨_, (true), (by first | rfl | (simp; done) | (simp [*]; done)), H', ⟨by have := HJ4.out; have := HJ13.out; first | omega | exact Nat.le_refl _⟩, ⟨by (with_reducible repeat (first | refine blk_drewN ?_ _ | refine blk_drew ?_ | refine blk_alloc ?_ _)); exact BK414.out⟩, ⟨by (with_reducible repeat (first | refine blk_drewN ?_ _ | refine blk_drew ?_ | refine blk_alloc ?_ _)); exact BK415.out⟩, ⟨by (with_reducible repeat (first | refine blk_drewN ?_ _ | refine blk_drew ?_ | refine blk_alloc ?_ _)); exact BK419.out⟩, ⟨by (with_reducible repeat (first | refine blk_drewN ?_ _ | refine blk_drew ?_ | refine blk_alloc ?_ _)); exact BK422.out⟩, ⟨by (with_reducible repeat (first | refine blk_drewN ?_ _ | refine blk_drew ?_ | refine blk_alloc ?_ _)); exact BK427.out⟩, ⟨by repeat (first | (with_reducible first | exact HB.out | apply below_alloc | apply pw_below_drewN | apply below_drew1 | refine below_set ?_ GE414.out | refine below_set ?_ GE415.out | refine below_set ?_ GE419.out | refine below_set ?_ GE422.out | refine below_set ?_ GE427.out) | exact HB.out)⟩⟩
              case rest =>
                clear HC43
                try clear c1
                try clear c2
                try clear p2
                try clear c3
                try clear c4
                try clear c5
                try clear c6
                try clear c8
                try clear c9
                try clear c9b0
                try clear c10
                try clear c13
                try clear c15
                try clear c19
                try clear c20
                try clear c21
                try clear c22
                try clear c25
                try clear c26
                try clear c27
                try clear c32
                try clear c32b0
                try clear c33
                try clear c33b0
                try clear c34
                try clear c35
                try clear c36
                try clear c38
                try clear c39
                try clear c41
                try clear c46
                try clear c47
                try clear c48
                try clear c49
                try clear c51
                try clear c51b0
                try clear c51b1
                try clear hcz16_0
                try clear hcz16_1
                try clear hcz21_0
                try clear hcz21_1
                try clear hcz22_0
                try clear hcz22_1
                try clear hcz28_0
                try clear hcz28_1
                try clear hcz29_0
                try clear hcz29_1
                try clear hcz30_0
                try clear hcz30_1
                try clear hcz37_0
                try clear hcz37_1
                try clear hcz40_0
                try clear hcz40_1
                try clear hcz50_0
                try clear hcz50_1
                try clear hfz16_0
                try clear hfz16_1
                try clear hfz21_0
                try clear hfz21_1
                try clear hfz22_0
                try clear hfz22_1
                try clear hfz28_0
                try clear hfz28_1
                try clear hfz29_0
                try clear hfz29_1
                try clear hfz30_0
                try clear hfz30_1
                try clear hfz37_0
                try clear hfz37_1
                try clear hfz40_0
                try clear hfz40_1
                try clear hfz50_0
                try clear hfz50_1
                try clear p2
                obtain ⟨kq, x70_42, rfl, HA, HJ42, BK414, BK415, BK419, BK422, BK427, HB⟩ := hcut
                cases kq with
                | zero => exact absurd HA.out (by simp [turnoutlaw01_ValueOrder.j2])
                | succ kj42 =>
                  have H := HA.out
                  clear HA
                  simp only [turnoutlaw01_ValueOrder.j2] at H
                  by_cases c60 : x70_42 = true
                  · subst c60
                    have H1 : (some false) = some r := by rw [if_pos rfl] at H; exact H
                    clear H
                    have H := H1
                    clear H1
                    exact absurd ((Option.some.inj H).trans hrt.out) (by decide)
                  · replace c60 := Bool.eq_false_iff.mpr c60
                    subst c60
                    have H1 : (if t423 < a2 then ((value_Bit.f t417 t418 a2 t423).bind fun t432 => ((value_Bit.f t420 t421 a2 t423).bind fun t433 => (if (t432 == t433) = true then (some false) else (if t432 = true then (turnoutlaw01_ValueOrder.j3 kj42 a2 t416 1 t417 t418 t420 t421) else (turnoutlaw01_ValueOrder.j3 kj42 a2 t416 (-1) t417 t418 t420 t421))))) else (turnoutlaw01_ValueOrder.j3 kj42 a2 t416 0 t417 t418 t420 t421)) = some r := by rw [if_neg (show ¬ (false = true) by decide)] at H; exact H
                    clear H
                    have H := H1
                    clear H1
                    have HC61 := Aside0.mk H
                    clear H
                    go_upto_if 73 with (fail)
                    go_cut [13] (fun v13 wc => ∃ (kq : Nat) (x13_60 : Int), v13 = .int .i64 x13_60 ∧ Aside0 (turnoutlaw01_ValueOrder.j3 kq a2 t416 x13_60 t417 t418 t420 t421 = some r) ∧ Aside0 (kq ≤ kj42) ∧ Aside0 (wc.heap[gb414]? = some (.cells #[.int .u64 a0_0, .int .u64 a0_1] 24 (0, 0))) ∧ Aside0 (wc.heap[gb415]? = some (.cells #[.int .u64 a1_0, .int .u64 a1_1] 24 (0, 0))) ∧ Aside0 (wc.heap[gb419]? = some (.cells #[.int .u64 t417, .int .u64 t418] 24 (0, 0))) ∧ Aside0 (wc.heap[gb422]? = some (.cells #[.int .u64 t420, .int .u64 t421] 24 (0, 0))) ∧ Aside0 (wc.heap[gb427]? = some (.cells #[.int .u64 t424, .int .u64 t425] 24 (0, 0))) ∧ Aside0 (Below w.heap.size w wc))
                    case first =>
                      have H := HC61.out
                      clear HC61
                      by_cases c62 : t423 < a2
                      · rw [if_pos c62] at H
                        have c62b0 : decide (t423 < a2) = true := decide_eq_true c62
                        clear c62
                        (first | rw [c62b0] | (simp only [i64_w, i32_w]; rw [c62b0]) | skip)
                        replace H := Option.bind_eq_some_iff.mp H
                        obtain ⟨t432, A630, H⟩ := H
                        replace H : ((value_Bit.f t420 t421 a2 t423).bind fun t433 => (if (t432 == t433) = true then (some false) else (if t432 = true then (turnoutlaw01_ValueOrder.j3 kj42 a2 t416 1 t417 t418 t420 t421) else (turnoutlaw01_ValueOrder.j3 kj42 a2 t416 (-1) t417 t418 t420 t421)))) = some r := H
                        have A63 := Aside0.mk A630
                        clear A630
                        replace H := Option.bind_eq_some_iff.mp H
                        obtain ⟨t433, A640, H⟩ := H
                        replace H : (if (t432 == t433) = true then (some false) else (if t432 = true then (turnoutlaw01_ValueOrder.j3 kj42 a2 t416 1 t417 t418 t420 t421) else (turnoutlaw01_ValueOrder.j3 kj42 a2 t416 (-1) t417 t418 t420 t421))) = some r := H
                        have A64 := Aside0.mk A640
                        clear A640
                        by_cases c65 : (t432 == t433) = true
                        · rw [if_pos c65] at H
                          have c65b0 : (t432 == t433) = true := c65
                          (try (have c65b1 : decide (t432 = t433) = true := by simpa using c65))
                          (try (have c65b2 : (t432 == t433) = true := by simpa using c65))
                          clear c65
                          exact absurd ((Option.some.inj H).trans hrt.out) (by decide)
                        · rw [if_neg c65] at H
                          have c65b0 : (t432 == t433) = false := by simpa using c65
                          (try (have c65b1 : decide (t432 = t433) = false := by simpa using c65))
                          (try (have c65b2 : (t432 == t433) = false := by simpa using c65))
                          (try (have c65b3 : ¬ (t432 = t433) := by simpa using c65))
                          clear c65
                          by_cases c66 : t432 = true
                          · subst c66
                            have H1 : (turnoutlaw01_ValueOrder.j3 kj42 a2 t416 1 t417 t418 t420 t421) = some r := by rw [if_pos rfl] at H; exact H
                            clear H
                            have H := H1
                            clear H1
                            have H' := Aside0.mk H
                            clear H
                            have hnb67 := NB419_414.out
                            have hnc67 := NB414_419.out
                            have hnb68 := NB419_415.out
                            have hnc68 := NB415_419.out
                            have hnb69 := NB419_422.out
                            have hnc69 := NB422_419.out
                            have hnb70 := NB419_427.out
                            have hnc70 := NB427_419.out
                            have hcz71_0 : wc.cell? ⟨gb419, 0, none⟩ = some (.int .u64 t417) := (blk_cell BK419.out 0).trans rfl
                            have hcz71_1 : wc.cell? ⟨gb419, 1, none⟩ = some (.int .u64 t418) := (blk_cell BK419.out 1).trans rfl
                            have hfz71_0 := blk_frozen BK419.out 0
                            have hfz71_1 := blk_frozen BK419.out 1
                            go_wp2_with (first | ((with_reducible refine gate_callee (f := 17) rfl ?_); refine goesL_ (some 77) rfl rfl Tryd.func17 (by kernel_rfl) rfl #[.agg #[.int .u64 t417, .int .u64 t418], .int .i64 a2, .int .i64 t423] rfl (by (try simp only [List.map_toArray, List.map_cons, List.map_nil]); first | done | rfl | (simp only [List.length_drop, List.length_take]; rfl)) ?_; (with_reducible refine (value_Bit.calls t417 t418 a2 t423 true _ A63.out).mono ?_); rintro e w72 ⟨rfl, hb⟩; refine ⟨_, rfl, ?_⟩; have n0_ := Aside0.mk (blk_below (g := gb414) (o := .cells #[.int .u64 a0_0, .int .u64 a0_1] 24 (0, 0)) (by (with_reducible repeat (first | refine blk_drewN ?_ _ | refine blk_drew ?_ | refine blk_alloc ?_ _)); exact BK414.out) hb); have n1_ := Aside0.mk (blk_below (g := gb415) (o := .cells #[.int .u64 a1_0, .int .u64 a1_1] 24 (0, 0)) (by (with_reducible repeat (first | refine blk_drewN ?_ _ | refine blk_drew ?_ | refine blk_alloc ?_ _)); exact BK415.out) hb); have n2_ := Aside0.mk (blk_below (g := gb419) (o := .cells #[.int .u64 t417, .int .u64 t418] 24 (0, 0)) (by (with_reducible repeat (first | refine blk_drewN ?_ _ | refine blk_drew ?_ | refine blk_alloc ?_ _)); exact BK419.out) hb); have n3_ := Aside0.mk (blk_below (g := gb422) (o := .cells #[.int .u64 t420, .int .u64 t421] 24 (0, 0)) (by (with_reducible repeat (first | refine blk_drewN ?_ _ | refine blk_drew ?_ | refine blk_alloc ?_ _)); exact BK422.out) hb); have n4_ := Aside0.mk (blk_below (g := gb427) (o := .cells #[.int .u64 t424, .int .u64 t425] 24 (0, 0)) (by (with_reducible repeat (first | refine blk_drewN ?_ _ | refine blk_drew ?_ | refine blk_alloc ?_ _)); exact BK427.out) hb); have n5_ := Aside0.mk (below_step (by repeat (first | (with_reducible first | exact HB.out | apply below_alloc | apply pw_below_drewN | apply below_drew1 | refine below_set ?_ GE414.out | refine below_set ?_ GE415.out | refine below_set ?_ GE419.out | refine below_set ?_ GE422.out | refine below_set ?_ GE427.out) | exact HB.out)) hb); clear BK414; clear BK415; clear BK419; clear BK422; clear BK427; clear HB; have BK414 := n0_; have BK415 := n1_; have BK419 := n2_; have BK422 := n3_; have BK427 := n4_; have HB := n5_; clear n0_ n1_ n2_ n3_ n4_ n5_; (try clear hb); (try clear hb2); (try clear hk); (try clear hi); have hnb73 := NB422_414.out; have hnc73 := NB414_422.out; have hnb74 := NB422_415.out; have hnc74 := NB415_422.out; have hnb75 := NB422_427.out; have hnc75 := NB427_422.out; have hcz76_0 : w72.cell? ⟨gb422, 0, none⟩ = some (.int .u64 t420) := (blk_cell BK422.out 0).trans rfl; have hcz76_1 : w72.cell? ⟨gb422, 1, none⟩ = some (.int .u64 t421) := (blk_cell BK422.out 1).trans rfl; have hfz76_0 := blk_frozen BK422.out 0; have hfz76_1 := blk_frozen BK422.out 1) | ((with_reducible refine gate_callee (f := 17) rfl ?_); refine goesL_ (some 82) rfl rfl Tryd.func17 (by kernel_rfl) rfl #[.agg #[.int .u64 t420, .int .u64 t421], .int .i64 a2, .int .i64 t423] rfl (by (try simp only [List.map_toArray, List.map_cons, List.map_nil]); first | done | rfl | (simp only [List.length_drop, List.length_take]; rfl)) ?_; (with_reducible refine (value_Bit.calls t420 t421 a2 t423 t433 _ A64.out).mono ?_); rintro e w77 ⟨rfl, hb⟩; refine ⟨_, rfl, ?_⟩; have n0_ := Aside0.mk (blk_below (g := gb414) (o := .cells #[.int .u64 a0_0, .int .u64 a0_1] 24 (0, 0)) (by (with_reducible repeat (first | refine blk_drewN ?_ _ | refine blk_drew ?_ | refine blk_alloc ?_ _)); exact BK414.out) hb); have n1_ := Aside0.mk (blk_below (g := gb415) (o := .cells #[.int .u64 a1_0, .int .u64 a1_1] 24 (0, 0)) (by (with_reducible repeat (first | refine blk_drewN ?_ _ | refine blk_drew ?_ | refine blk_alloc ?_ _)); exact BK415.out) hb); have n2_ := Aside0.mk (blk_below (g := gb419) (o := .cells #[.int .u64 t417, .int .u64 t418] 24 (0, 0)) (by (with_reducible repeat (first | refine blk_drewN ?_ _ | refine blk_drew ?_ | refine blk_alloc ?_ _)); exact BK419.out) hb); have n3_ := Aside0.mk (blk_below (g := gb422) (o := .cells #[.int .u64 t420, .int .u64 t421] 24 (0, 0)) (by (with_reducible repeat (first | refine blk_drewN ?_ _ | refine blk_drew ?_ | refine blk_alloc ?_ _)); exact BK422.out) hb); have n4_ := Aside0.mk (blk_below (g := gb427) (o := .cells #[.int .u64 t424, .int .u64 t425] 24 (0, 0)) (by (with_reducible repeat (first | refine blk_drewN ?_ _ | refine blk_drew ?_ | refine blk_alloc ?_ _)); exact BK427.out) hb); have n5_ := Aside0.mk (below_step (by repeat (first | (with_reducible first | exact HB.out | apply below_alloc | apply pw_below_drewN | apply below_drew1 | refine below_set ?_ GE414.out | refine below_set ?_ GE415.out | refine below_set ?_ GE419.out | refine below_set ?_ GE422.out | refine below_set ?_ GE427.out) | exact HB.out)) hb); clear BK414; clear BK415; clear BK419; clear BK422; clear BK427; clear HB; have BK414 := n0_; have BK415 := n1_; have BK419 := n2_; have BK422 := n3_; have BK427 := n4_; have HB := n5_; clear n0_ n1_ n2_ n3_ n4_ n5_; (try clear hb); (try clear hb2); (try clear hk); (try clear hi)))
                            go_meet
                            case rel => exact ⟨_, (1), (by first | rfl | (simp; done) | (simp [*]; done)), H', ⟨by have := HJ4.out; have := HJ13.out; have := HJ42.out; first | omega | exact Nat.le_refl _⟩, ⟨by (with_reducible repeat (first | refine blk_drewN ?_ _ | refine blk_drew ?_ | refine blk_alloc ?_ _)); exact BK414.out⟩, ⟨by (with_reducible repeat (first | refine blk_drewN ?_ _ | refine blk_drew ?_ | refine blk_alloc ?_ _)); exact BK415.out⟩, ⟨by (with_reducible repeat (first | refine blk_drewN ?_ _ | refine blk_drew ?_ | refine blk_alloc ?_ _)); exact BK419.out⟩, ⟨by (with_reducible repeat (first | refine blk_drewN ?_ _ | refine blk_drew ?_ | refine blk_alloc ?_ _)); exact BK422.out⟩, ⟨by (with_reducible repeat (first | refine blk_drewN ?_ _ | refine blk_drew ?_ | refine blk_alloc ?_ _)); exact BK427.out⟩, ⟨by repeat (first | (with_reducible first | exact HB.out | apply below_alloc | apply pw_below_drewN | apply below_drew1 | refine below_set ?_ GE414.out | refine below_set ?_ GE415.out | refine below_set ?_ GE419.out | refine below_set ?_ GE422.out | refine below_set ?_ GE427.out) | exact HB.out)⟩⟩
                          · replace c66 := Bool.eq_false_iff.mpr c66
                            subst c66
                            have H1 : (turnoutlaw01_ValueOrder.j3 kj42 a2 t416 (-1) t417 t418 t420 t421) = some r := by rw [if_neg (show ¬ (false = true) by decide)] at H; exact H
                            clear H
                            have H := H1
                            clear H1
                            have H' := Aside0.mk H
                            clear H
                            have hnb78 := NB419_414.out
                            have hnc78 := NB414_419.out
                            have hnb79 := NB419_415.out
                            have hnc79 := NB415_419.out
                            have hnb80 := NB419_422.out
                            have hnc80 := NB422_419.out
                            have hnb81 := NB419_427.out
                            have hnc81 := NB427_419.out
                            have hcz82_0 : wc.cell? ⟨gb419, 0, none⟩ = some (.int .u64 t417) := (blk_cell BK419.out 0).trans rfl
                            have hcz82_1 : wc.cell? ⟨gb419, 1, none⟩ = some (.int .u64 t418) := (blk_cell BK419.out 1).trans rfl
                            have hfz82_0 := blk_frozen BK419.out 0
                            have hfz82_1 := blk_frozen BK419.out 1
                            go_wp2_with (first | ((with_reducible refine gate_callee (f := 17) rfl ?_); refine goesL_ (some 77) rfl rfl Tryd.func17 (by kernel_rfl) rfl #[.agg #[.int .u64 t417, .int .u64 t418], .int .i64 a2, .int .i64 t423] rfl (by (try simp only [List.map_toArray, List.map_cons, List.map_nil]); first | done | rfl | (simp only [List.length_drop, List.length_take]; rfl)) ?_; (with_reducible refine (value_Bit.calls t417 t418 a2 t423 false _ A63.out).mono ?_); rintro e w83 ⟨rfl, hb⟩; refine ⟨_, rfl, ?_⟩; have n0_ := Aside0.mk (blk_below (g := gb414) (o := .cells #[.int .u64 a0_0, .int .u64 a0_1] 24 (0, 0)) (by (with_reducible repeat (first | refine blk_drewN ?_ _ | refine blk_drew ?_ | refine blk_alloc ?_ _)); exact BK414.out) hb); have n1_ := Aside0.mk (blk_below (g := gb415) (o := .cells #[.int .u64 a1_0, .int .u64 a1_1] 24 (0, 0)) (by (with_reducible repeat (first | refine blk_drewN ?_ _ | refine blk_drew ?_ | refine blk_alloc ?_ _)); exact BK415.out) hb); have n2_ := Aside0.mk (blk_below (g := gb419) (o := .cells #[.int .u64 t417, .int .u64 t418] 24 (0, 0)) (by (with_reducible repeat (first | refine blk_drewN ?_ _ | refine blk_drew ?_ | refine blk_alloc ?_ _)); exact BK419.out) hb); have n3_ := Aside0.mk (blk_below (g := gb422) (o := .cells #[.int .u64 t420, .int .u64 t421] 24 (0, 0)) (by (with_reducible repeat (first | refine blk_drewN ?_ _ | refine blk_drew ?_ | refine blk_alloc ?_ _)); exact BK422.out) hb); have n4_ := Aside0.mk (blk_below (g := gb427) (o := .cells #[.int .u64 t424, .int .u64 t425] 24 (0, 0)) (by (with_reducible repeat (first | refine blk_drewN ?_ _ | refine blk_drew ?_ | refine blk_alloc ?_ _)); exact BK427.out) hb); have n5_ := Aside0.mk (below_step (by repeat (first | (with_reducible first | exact HB.out | apply below_alloc | apply pw_below_drewN | apply below_drew1 | refine below_set ?_ GE414.out | refine below_set ?_ GE415.out | refine below_set ?_ GE419.out | refine below_set ?_ GE422.out | refine below_set ?_ GE427.out) | exact HB.out)) hb); clear BK414; clear BK415; clear BK419; clear BK422; clear BK427; clear HB; have BK414 := n0_; have BK415 := n1_; have BK419 := n2_; have BK422 := n3_; have BK427 := n4_; have HB := n5_; clear n0_ n1_ n2_ n3_ n4_ n5_; (try clear hb); (try clear hb2); (try clear hk); (try clear hi); have hnb84 := NB422_414.out; have hnc84 := NB414_422.out; have hnb85 := NB422_415.out; have hnc85 := NB415_422.out; have hnb86 := NB422_427.out; have hnc86 := NB427_422.out; have hcz87_0 : w83.cell? ⟨gb422, 0, none⟩ = some (.int .u64 t420) := (blk_cell BK422.out 0).trans rfl; have hcz87_1 : w83.cell? ⟨gb422, 1, none⟩ = some (.int .u64 t421) := (blk_cell BK422.out 1).trans rfl; have hfz87_0 := blk_frozen BK422.out 0; have hfz87_1 := blk_frozen BK422.out 1) | ((with_reducible refine gate_callee (f := 17) rfl ?_); refine goesL_ (some 82) rfl rfl Tryd.func17 (by kernel_rfl) rfl #[.agg #[.int .u64 t420, .int .u64 t421], .int .i64 a2, .int .i64 t423] rfl (by (try simp only [List.map_toArray, List.map_cons, List.map_nil]); first | done | rfl | (simp only [List.length_drop, List.length_take]; rfl)) ?_; (with_reducible refine (value_Bit.calls t420 t421 a2 t423 t433 _ A64.out).mono ?_); rintro e w88 ⟨rfl, hb⟩; refine ⟨_, rfl, ?_⟩; have n0_ := Aside0.mk (blk_below (g := gb414) (o := .cells #[.int .u64 a0_0, .int .u64 a0_1] 24 (0, 0)) (by (with_reducible repeat (first | refine blk_drewN ?_ _ | refine blk_drew ?_ | refine blk_alloc ?_ _)); exact BK414.out) hb); have n1_ := Aside0.mk (blk_below (g := gb415) (o := .cells #[.int .u64 a1_0, .int .u64 a1_1] 24 (0, 0)) (by (with_reducible repeat (first | refine blk_drewN ?_ _ | refine blk_drew ?_ | refine blk_alloc ?_ _)); exact BK415.out) hb); have n2_ := Aside0.mk (blk_below (g := gb419) (o := .cells #[.int .u64 t417, .int .u64 t418] 24 (0, 0)) (by (with_reducible repeat (first | refine blk_drewN ?_ _ | refine blk_drew ?_ | refine blk_alloc ?_ _)); exact BK419.out) hb); have n3_ := Aside0.mk (blk_below (g := gb422) (o := .cells #[.int .u64 t420, .int .u64 t421] 24 (0, 0)) (by (with_reducible repeat (first | refine blk_drewN ?_ _ | refine blk_drew ?_ | refine blk_alloc ?_ _)); exact BK422.out) hb); have n4_ := Aside0.mk (blk_below (g := gb427) (o := .cells #[.int .u64 t424, .int .u64 t425] 24 (0, 0)) (by (with_reducible repeat (first | refine blk_drewN ?_ _ | refine blk_drew ?_ | refine blk_alloc ?_ _)); exact BK427.out) hb); have n5_ := Aside0.mk (below_step (by repeat (first | (with_reducible first | exact HB.out | apply below_alloc | apply pw_below_drewN | apply below_drew1 | refine below_set ?_ GE414.out | refine below_set ?_ GE415.out | refine below_set ?_ GE419.out | refine below_set ?_ GE422.out | refine below_set ?_ GE427.out) | exact HB.out)) hb); clear BK414; clear BK415; clear BK419; clear BK422; clear BK427; clear HB; have BK414 := n0_; have BK415 := n1_; have BK419 := n2_; have BK422 := n3_; have BK427 := n4_; have HB := n5_; clear n0_ n1_ n2_ n3_ n4_ n5_; (try clear hb); (try clear hb2); (try clear hk); (try clear hi)))
                            go_meet
                            case rel => exact ⟨_, ((-1)), (by first | rfl | (simp; done) | (simp [*]; done)), H', ⟨by have := HJ4.out; have := HJ13.out; have := HJ42.out; first | omega | exact Nat.le_refl _⟩, ⟨by (with_reducible repeat (first | refine blk_drewN ?_ _ | refine blk_drew ?_ | refine blk_alloc ?_ _)); exact BK414.out⟩, ⟨by (with_reducible repeat (first | refine blk_drewN ?_ _ | refine blk_drew ?_ | refine blk_alloc ?_ _)); exact BK415.out⟩, ⟨by (with_reducible repeat (first | refine blk_drewN ?_ _ | refine blk_drew ?_ | refine blk_alloc ?_ _)); exact BK419.out⟩, ⟨by (with_reducible repeat (first | refine blk_drewN ?_ _ | refine blk_drew ?_ | refine blk_alloc ?_ _)); exact BK422.out⟩, ⟨by (with_reducible repeat (first | refine blk_drewN ?_ _ | refine blk_drew ?_ | refine blk_alloc ?_ _)); exact BK427.out⟩, ⟨by repeat (first | (with_reducible first | exact HB.out | apply below_alloc | apply pw_below_drewN | apply below_drew1 | refine below_set ?_ GE414.out | refine below_set ?_ GE415.out | refine below_set ?_ GE419.out | refine below_set ?_ GE422.out | refine below_set ?_ GE427.out) | exact HB.out)⟩⟩
                      · rw [if_neg c62] at H
                        have c62b0 : decide (t423 < a2) = false := decide_eq_false c62
                        clear c62
                        (first | rw [c62b0] | (simp only [i64_w, i32_w]; rw [c62b0]) | skip)
                        have H' := Aside0.mk H
                        clear H
                        go_wp2
                        go_meet
                        case rel => exact ⟨_, (0), (by first | rfl | (simp; done) | (simp [*]; done)), H', ⟨by have := HJ4.out; have := HJ13.out; have := HJ42.out; first | omega | exact Nat.le_refl _⟩, ⟨by (with_reducible repeat (first | refine blk_drewN ?_ _ | refine blk_drew ?_ | refine blk_alloc ?_ _)); exact BK414.out⟩, ⟨by (with_reducible repeat (first | refine blk_drewN ?_ _ | refine blk_drew ?_ | refine blk_alloc ?_ _)); exact BK415.out⟩, ⟨by (with_reducible repeat (first | refine blk_drewN ?_ _ | refine blk_drew ?_ | refine blk_alloc ?_ _)); exact BK419.out⟩, ⟨by (with_reducible repeat (first | refine blk_drewN ?_ _ | refine blk_drew ?_ | refine blk_alloc ?_ _)); exact BK422.out⟩, ⟨by (with_reducible repeat (first | refine blk_drewN ?_ _ | refine blk_drew ?_ | refine blk_alloc ?_ _)); exact BK427.out⟩, ⟨by repeat (first | (with_reducible first | exact HB.out | apply below_alloc | apply pw_below_drewN | apply below_drew1 | refine below_set ?_ GE414.out | refine below_set ?_ GE415.out | refine below_set ?_ GE419.out | refine below_set ?_ GE422.out | refine below_set ?_ GE427.out) | exact HB.out)⟩⟩
                    case rest =>
                      clear HC61
                      try clear c1
                      try clear c2
                      try clear p2
                      try clear c3
                      try clear c4
                      try clear c5
                      try clear c6
                      try clear c7
                      try clear c8
                      try clear c9
                      try clear c9b0
                      try clear c10
                      try clear c13
                      try clear c15
                      try clear c17
                      try clear c19
                      try clear c20
                      try clear c21
                      try clear c22
                      try clear c25
                      try clear c26
                      try clear c27
                      try clear c32
                      try clear c32b0
                      try clear c33
                      try clear c33b0
                      try clear c34
                      try clear c35
                      try clear c36
                      try clear c38
                      try clear c39
                      try clear c41
                      try clear c46
                      try clear c47
                      try clear c48
                      try clear c49
                      try clear c51
                      try clear c51b0
                      try clear c51b1
                      try clear c60
                      try clear c62
                      try clear c62b0
                      try clear c65
                      try clear c65b0
                      try clear c65b1
                      try clear c65b2
                      try clear c66
                      try clear c67
                      try clear c68
                      try clear c69
                      try clear c70
                      try clear c73
                      try clear c74
                      try clear c75
                      try clear c78
                      try clear c79
                      try clear c80
                      try clear c81
                      try clear c84
                      try clear c85
                      try clear c86
                      try clear hcz16_0
                      try clear hcz16_1
                      try clear hcz21_0
                      try clear hcz21_1
                      try clear hcz22_0
                      try clear hcz22_1
                      try clear hcz28_0
                      try clear hcz28_1
                      try clear hcz29_0
                      try clear hcz29_1
                      try clear hcz30_0
                      try clear hcz30_1
                      try clear hcz37_0
                      try clear hcz37_1
                      try clear hcz40_0
                      try clear hcz40_1
                      try clear hcz50_0
                      try clear hcz50_1
                      try clear hcz71_0
                      try clear hcz71_1
                      try clear hcz76_0
                      try clear hcz76_1
                      try clear hcz82_0
                      try clear hcz82_1
                      try clear hcz87_0
                      try clear hcz87_1
                      try clear hfz16_0
                      try clear hfz16_1
                      try clear hfz21_0
                      try clear hfz21_1
                      try clear hfz22_0
                      try clear hfz22_1
                      try clear hfz28_0
                      try clear hfz28_1
                      try clear hfz29_0
                      try clear hfz29_1
                      try clear hfz30_0
                      try clear hfz30_1
                      try clear hfz37_0
                      try clear hfz37_1
                      try clear hfz40_0
                      try clear hfz40_1
                      try clear hfz50_0
                      try clear hfz50_1
                      try clear hfz71_0
                      try clear hfz71_1
                      try clear hfz76_0
                      try clear hfz76_1
                      try clear hfz82_0
                      try clear hfz82_1
                      try clear hfz87_0
                      try clear hfz87_1
                      try clear p2
                      obtain ⟨kq, x13_60, rfl, HA, HJ60, BK414, BK415, BK419, BK422, BK427, HB⟩ := hcut
                      cases kq with
                      | zero => exact absurd HA.out (by simp [turnoutlaw01_ValueOrder.j3])
                      | succ kj60 =>
                        have H := HA.out
                        clear HA
                        simp only [turnoutlaw01_ValueOrder.j3] at H
                        replace H := Option.bind_eq_some_iff.mp H
                        obtain ⟨⟨t434, t435⟩, A890, H⟩ := H
                        replace H : ((value_Bytes.f kj60 t420 t421 a2).bind fun bt436 => (if (Op.bytesLess t434.toList bt436.1.toList) = true then (turnoutlaw01_ValueOrder.j4 kj60 t416 x13_60 t434 t435 bt436.1 bt436.2 (-1) t417 t418 t420 t421) else (turnoutlaw01_ValueOrder.j4 kj60 t416 x13_60 t434 t435 bt436.1 bt436.2 0 t417 t418 t420 t421))) = some r := H
                        have A89 := Aside0.mk A890
                        clear A890
                        replace H := Option.bind_eq_some_iff.mp H
                        obtain ⟨⟨t436, t437⟩, A900, H⟩ := H
                        replace H : (if (Op.bytesLess t434.toList t436.toList) = true then (turnoutlaw01_ValueOrder.j4 kj60 t416 x13_60 t434 t435 t436 t437 (-1) t417 t418 t420 t421) else (turnoutlaw01_ValueOrder.j4 kj60 t416 x13_60 t434 t435 t436 t437 0 t417 t418 t420 t421)) = some r := H
                        have A90 := Aside0.mk A900
                        clear A900
                        have HC91 := Aside0.mk H
                        clear H
                        have hnb92 := NB419_414.out
                        have hnc92 := NB414_419.out
                        have hnb93 := NB419_415.out
                        have hnc93 := NB415_419.out
                        have hnb94 := NB419_422.out
                        have hnc94 := NB422_419.out
                        have hnb95 := NB419_427.out
                        have hnc95 := NB427_419.out
                        have hcz96_0 : wc.cell? ⟨gb419, 0, none⟩ = some (.int .u64 t417) := (blk_cell BK419.out 0).trans rfl
                        have hcz96_1 : wc.cell? ⟨gb419, 1, none⟩ = some (.int .u64 t418) := (blk_cell BK419.out 1).trans rfl
                        have hfz96_0 := blk_frozen BK419.out 0
                        have hfz96_1 := blk_frozen BK419.out 1
                        go_upto_if 99 with (first | ((with_reducible refine gate_callee (f := 14) rfl ?_); refine goesL_ (some 88) rfl rfl Tryd.func14 (by kernel_rfl) rfl #[.agg #[.int .u64 t417, .int .u64 t418], .int .i64 a2] rfl (by (try simp only [List.map_toArray, List.map_cons, List.map_nil]); first | done | rfl | (simp only [List.length_drop, List.length_take]; rfl)) ?_; (with_reducible refine (value_Bytes.calls kj60 t417 t418 a2 t434 t435 _ A89.out).mono ?_); rintro e w97 ⟨rfl, hb⟩; refine ⟨_, rfl, ?_⟩; have n0_ := Aside0.mk (blk_below (g := gb414) (o := .cells #[.int .u64 a0_0, .int .u64 a0_1] 24 (0, 0)) (by (with_reducible repeat (first | refine blk_drewN ?_ _ | refine blk_drew ?_ | refine blk_alloc ?_ _)); exact BK414.out) hb); have n1_ := Aside0.mk (blk_below (g := gb415) (o := .cells #[.int .u64 a1_0, .int .u64 a1_1] 24 (0, 0)) (by (with_reducible repeat (first | refine blk_drewN ?_ _ | refine blk_drew ?_ | refine blk_alloc ?_ _)); exact BK415.out) hb); have n2_ := Aside0.mk (blk_below (g := gb419) (o := .cells #[.int .u64 t417, .int .u64 t418] 24 (0, 0)) (by (with_reducible repeat (first | refine blk_drewN ?_ _ | refine blk_drew ?_ | refine blk_alloc ?_ _)); exact BK419.out) hb); have n3_ := Aside0.mk (blk_below (g := gb422) (o := .cells #[.int .u64 t420, .int .u64 t421] 24 (0, 0)) (by (with_reducible repeat (first | refine blk_drewN ?_ _ | refine blk_drew ?_ | refine blk_alloc ?_ _)); exact BK422.out) hb); have n4_ := Aside0.mk (blk_below (g := gb427) (o := .cells #[.int .u64 t424, .int .u64 t425] 24 (0, 0)) (by (with_reducible repeat (first | refine blk_drewN ?_ _ | refine blk_drew ?_ | refine blk_alloc ?_ _)); exact BK427.out) hb); have n5_ := Aside0.mk (below_step (by repeat (first | (with_reducible first | exact HB.out | apply below_alloc | apply pw_below_drewN | apply below_drew1 | refine below_set ?_ GE414.out | refine below_set ?_ GE415.out | refine below_set ?_ GE419.out | refine below_set ?_ GE422.out | refine below_set ?_ GE427.out) | exact HB.out)) hb); clear BK414; clear BK415; clear BK419; clear BK422; clear BK427; clear HB; have BK414 := n0_; have BK415 := n1_; have BK419 := n2_; have BK422 := n3_; have BK427 := n4_; have HB := n5_; clear n0_ n1_ n2_ n3_ n4_ n5_; (try clear hb); (try clear hb2); (try clear hk); (try clear hi); have hnb98 := NB422_414.out; have hnc98 := NB414_422.out; have hnb99 := NB422_415.out; have hnc99 := NB415_422.out; have hnb100 := NB422_427.out; have hnc100 := NB427_422.out; have hcz101_0 : w97.cell? ⟨gb422, 0, none⟩ = some (.int .u64 t420) := (blk_cell BK422.out 0).trans rfl; have hcz101_1 : w97.cell? ⟨gb422, 1, none⟩ = some (.int .u64 t421) := (blk_cell BK422.out 1).trans rfl; have hfz101_0 := blk_frozen BK422.out 0; have hfz101_1 := blk_frozen BK422.out 1) | ((with_reducible refine gate_callee (f := 14) rfl ?_); refine goesL_ (some 94) rfl rfl Tryd.func14 (by kernel_rfl) rfl #[.agg #[.int .u64 t420, .int .u64 t421], .int .i64 a2] rfl (by (try simp only [List.map_toArray, List.map_cons, List.map_nil]); first | done | rfl | (simp only [List.length_drop, List.length_take]; rfl)) ?_; (with_reducible refine (value_Bytes.calls kj60 t420 t421 a2 t436 t437 _ A90.out).mono ?_); rintro e w102 ⟨rfl, hb⟩; refine ⟨_, rfl, ?_⟩; have n0_ := Aside0.mk (blk_below (g := gb414) (o := .cells #[.int .u64 a0_0, .int .u64 a0_1] 24 (0, 0)) (by (with_reducible repeat (first | refine blk_drewN ?_ _ | refine blk_drew ?_ | refine blk_alloc ?_ _)); exact BK414.out) hb); have n1_ := Aside0.mk (blk_below (g := gb415) (o := .cells #[.int .u64 a1_0, .int .u64 a1_1] 24 (0, 0)) (by (with_reducible repeat (first | refine blk_drewN ?_ _ | refine blk_drew ?_ | refine blk_alloc ?_ _)); exact BK415.out) hb); have n2_ := Aside0.mk (blk_below (g := gb419) (o := .cells #[.int .u64 t417, .int .u64 t418] 24 (0, 0)) (by (with_reducible repeat (first | refine blk_drewN ?_ _ | refine blk_drew ?_ | refine blk_alloc ?_ _)); exact BK419.out) hb); have n3_ := Aside0.mk (blk_below (g := gb422) (o := .cells #[.int .u64 t420, .int .u64 t421] 24 (0, 0)) (by (with_reducible repeat (first | refine blk_drewN ?_ _ | refine blk_drew ?_ | refine blk_alloc ?_ _)); exact BK422.out) hb); have n4_ := Aside0.mk (blk_below (g := gb427) (o := .cells #[.int .u64 t424, .int .u64 t425] 24 (0, 0)) (by (with_reducible repeat (first | refine blk_drewN ?_ _ | refine blk_drew ?_ | refine blk_alloc ?_ _)); exact BK427.out) hb); have n5_ := Aside0.mk (below_step (by repeat (first | (with_reducible first | exact HB.out | apply below_alloc | apply pw_below_drewN | apply below_drew1 | refine below_set ?_ GE414.out | refine below_set ?_ GE415.out | refine below_set ?_ GE419.out | refine below_set ?_ GE422.out | refine below_set ?_ GE427.out) | exact HB.out)) hb); clear BK414; clear BK415; clear BK419; clear BK422; clear BK427; clear HB; have BK414 := n0_; have BK415 := n1_; have BK419 := n2_; have BK422 := n3_; have BK427 := n4_; have HB := n5_; clear n0_ n1_ n2_ n3_ n4_ n5_; (try clear hb); (try clear hb2); (try clear hk); (try clear hi)))
                        (try simp only [Act.put, List.setIfInBounds_toArray, List.set_cons_zero, List.set_cons_succ])
                        go_cut [19] (fun v19 wc => ∃ (kq : Nat) (x19_90 : Int), v19 = .int .i64 x19_90 ∧ Aside0 (turnoutlaw01_ValueOrder.j4 kq t416 x13_60 t434 t435 t436 t437 x19_90 t417 t418 t420 t421 = some r) ∧ Aside0 (kq ≤ kj60) ∧ Aside0 (wc.heap[gb414]? = some (.cells #[.int .u64 a0_0, .int .u64 a0_1] 24 (0, 0))) ∧ Aside0 (wc.heap[gb415]? = some (.cells #[.int .u64 a1_0, .int .u64 a1_1] 24 (0, 0))) ∧ Aside0 (wc.heap[gb419]? = some (.cells #[.int .u64 t417, .int .u64 t418] 24 (0, 0))) ∧ Aside0 (wc.heap[gb422]? = some (.cells #[.int .u64 t420, .int .u64 t421] 24 (0, 0))) ∧ Aside0 (wc.heap[gb427]? = some (.cells #[.int .u64 t424, .int .u64 t425] 24 (0, 0))) ∧ Aside0 (Below w.heap.size w wc))
                        case first =>
                          have H := HC91.out
                          clear HC91
                          by_cases c103 : (Op.bytesLess t434.toList t436.toList) = true
                          · rw [if_pos c103] at H
                            have c103b0 : (Op.bytesLess t434.toList t436.toList) = true := c103
                            clear c103
                            (first | rw [c103b0] | (simp only [i64_w, i32_w]; rw [c103b0]) | skip)
                            have H' := Aside0.mk H
                            clear H
                            go_wp2
                            go_meet
                            case rel => exact ⟨_, ((-1)), (by first | rfl | (simp; done) | (simp [*]; done)), H', ⟨by have := HJ4.out; have := HJ13.out; have := HJ42.out; have := HJ60.out; first | omega | exact Nat.le_refl _⟩, ⟨by (with_reducible repeat (first | refine blk_drewN ?_ _ | refine blk_drew ?_ | refine blk_alloc ?_ _)); exact BK414.out⟩, ⟨by (with_reducible repeat (first | refine blk_drewN ?_ _ | refine blk_drew ?_ | refine blk_alloc ?_ _)); exact BK415.out⟩, ⟨by (with_reducible repeat (first | refine blk_drewN ?_ _ | refine blk_drew ?_ | refine blk_alloc ?_ _)); exact BK419.out⟩, ⟨by (with_reducible repeat (first | refine blk_drewN ?_ _ | refine blk_drew ?_ | refine blk_alloc ?_ _)); exact BK422.out⟩, ⟨by (with_reducible repeat (first | refine blk_drewN ?_ _ | refine blk_drew ?_ | refine blk_alloc ?_ _)); exact BK427.out⟩, ⟨by repeat (first | (with_reducible first | exact HB.out | apply below_alloc | apply pw_below_drewN | apply below_drew1 | refine below_set ?_ GE414.out | refine below_set ?_ GE415.out | refine below_set ?_ GE419.out | refine below_set ?_ GE422.out | refine below_set ?_ GE427.out) | exact HB.out)⟩⟩
                          · rw [if_neg c103] at H
                            have c103b0 : (Op.bytesLess t434.toList t436.toList) = false := by simpa using c103
                            clear c103
                            (first | rw [c103b0] | (simp only [i64_w, i32_w]; rw [c103b0]) | skip)
                            have H' := Aside0.mk H
                            clear H
                            go_wp2
                            go_meet
                            case rel => exact ⟨_, (0), (by first | rfl | (simp; done) | (simp [*]; done)), H', ⟨by have := HJ4.out; have := HJ13.out; have := HJ42.out; have := HJ60.out; first | omega | exact Nat.le_refl _⟩, ⟨by (with_reducible repeat (first | refine blk_drewN ?_ _ | refine blk_drew ?_ | refine blk_alloc ?_ _)); exact BK414.out⟩, ⟨by (with_reducible repeat (first | refine blk_drewN ?_ _ | refine blk_drew ?_ | refine blk_alloc ?_ _)); exact BK415.out⟩, ⟨by (with_reducible repeat (first | refine blk_drewN ?_ _ | refine blk_drew ?_ | refine blk_alloc ?_ _)); exact BK419.out⟩, ⟨by (with_reducible repeat (first | refine blk_drewN ?_ _ | refine blk_drew ?_ | refine blk_alloc ?_ _)); exact BK422.out⟩, ⟨by (with_reducible repeat (first | refine blk_drewN ?_ _ | refine blk_drew ?_ | refine blk_alloc ?_ _)); exact BK427.out⟩, ⟨by repeat (first | (with_reducible first | exact HB.out | apply below_alloc | apply pw_below_drewN | apply below_drew1 | refine below_set ?_ GE414.out | refine below_set ?_ GE415.out | refine below_set ?_ GE419.out | refine below_set ?_ GE422.out | refine below_set ?_ GE427.out) | exact HB.out)⟩⟩
                        case rest =>
                          clear HC91
                          try clear c1
                          try clear c2
                          try clear p2
                          try clear c3
                          try clear c4
                          try clear c5
                          try clear c6
                          try clear c7
                          try clear c8
                          try clear c9
                          try clear c9b0
                          try clear c10
                          try clear c13
                          try clear c14
                          try clear c15
                          try clear c17
                          try clear c19
                          try clear c20
                          try clear c21
                          try clear c22
                          try clear c25
                          try clear c26
                          try clear c27
                          try clear c32
                          try clear c32b0
                          try clear c33
                          try clear c33b0
                          try clear c34
                          try clear c35
                          try clear c36
                          try clear c38
                          try clear c39
                          try clear c41
                          try clear c46
                          try clear c47
                          try clear c48
                          try clear c49
                          try clear c51
                          try clear c51b0
                          try clear c51b1
                          try clear c60
                          try clear c62
                          try clear c62b0
                          try clear c65
                          try clear c65b0
                          try clear c65b1
                          try clear c65b2
                          try clear c66
                          try clear c67
                          try clear c68
                          try clear c69
                          try clear c70
                          try clear c73
                          try clear c74
                          try clear c75
                          try clear c78
                          try clear c79
                          try clear c80
                          try clear c81
                          try clear c84
                          try clear c85
                          try clear c86
                          try clear c92
                          try clear c93
                          try clear c94
                          try clear c95
                          try clear c98
                          try clear c99
                          try clear c100
                          try clear c103
                          try clear c103b0
                          try clear hcz101_0
                          try clear hcz101_1
                          try clear hcz16_0
                          try clear hcz16_1
                          try clear hcz21_0
                          try clear hcz21_1
                          try clear hcz22_0
                          try clear hcz22_1
                          try clear hcz28_0
                          try clear hcz28_1
                          try clear hcz29_0
                          try clear hcz29_1
                          try clear hcz30_0
                          try clear hcz30_1
                          try clear hcz37_0
                          try clear hcz37_1
                          try clear hcz40_0
                          try clear hcz40_1
                          try clear hcz50_0
                          try clear hcz50_1
                          try clear hcz71_0
                          try clear hcz71_1
                          try clear hcz76_0
                          try clear hcz76_1
                          try clear hcz82_0
                          try clear hcz82_1
                          try clear hcz87_0
                          try clear hcz87_1
                          try clear hcz96_0
                          try clear hcz96_1
                          try clear hfz101_0
                          try clear hfz101_1
                          try clear hfz16_0
                          try clear hfz16_1
                          try clear hfz21_0
                          try clear hfz21_1
                          try clear hfz22_0
                          try clear hfz22_1
                          try clear hfz28_0
                          try clear hfz28_1
                          try clear hfz29_0
                          try clear hfz29_1
                          try clear hfz30_0
                          try clear hfz30_1
                          try clear hfz37_0
                          try clear hfz37_1
                          try clear hfz40_0
                          try clear hfz40_1
                          try clear hfz50_0
                          try clear hfz50_1
                          try clear hfz71_0
                          try clear hfz71_1
                          try clear hfz76_0
                          try clear hfz76_1
                          try clear hfz82_0
                          try clear hfz82_1
                          try clear hfz87_0
                          try clear hfz87_1
                          try clear hfz96_0
                          try clear hfz96_1
                          try clear p2
                          obtain ⟨kq, x19_90, rfl, HA, HJ90, BK414, BK415, BK419, BK422, BK427, HB⟩ := hcut
                          cases kq with
                          | zero => exact absurd HA.out (by simp [turnoutlaw01_ValueOrder.j4])
                          | succ kj90 =>
                            have H := HA.out
                            clear HA
                            simp only [turnoutlaw01_ValueOrder.j4] at H
                            by_cases c104 : (Op.bytesLess t436.toList t434.toList) = true
                            · rw [if_pos c104] at H
                              have c104b0 : (Op.bytesLess t436.toList t434.toList) = true := c104
                              clear c104
                              by_cases c105 : t416 = true
                              · subst c105
                                have H1 : ((value_Compare.f kj90 t417 t418 t420 t421).bind fun t438 => (if t438 = x13_60 then ((value_Compare.f kj90 t420 t421 t417 t418).bind fun t439 => (if t439 = (wrap64 (-x13_60)) then (if t435 = 0 then (if t437 = 0 then (some (1 == x13_60)) else (some false)) else (some false)) else (some false))) else (some false))) = some r := by rw [if_pos rfl] at H; exact H
                                clear H
                                have H := H1
                                clear H1
                                replace H := Option.bind_eq_some_iff.mp H
                                obtain ⟨t438, A1060, H⟩ := H
                                replace H : (if t438 = x13_60 then ((value_Compare.f kj90 t420 t421 t417 t418).bind fun t439 => (if t439 = (wrap64 (-x13_60)) then (if t435 = 0 then (if t437 = 0 then (some (1 == x13_60)) else (some false)) else (some false)) else (some false))) else (some false)) = some r := H
                                have A106 := Aside0.mk A1060
                                clear A1060
                                by_cases c107 : t438 = x13_60
                                · rw [if_pos c107] at H
                                  have c107b0 : (t438 == x13_60) = true := beq_iff_eq.mpr c107
                                  have c107b1 : (t438 != x13_60) = false := bne_eq_false_iff_eq.mpr c107
                                  clear c107
                                  replace H := Option.bind_eq_some_iff.mp H
                                  obtain ⟨t439, A1080, H⟩ := H
                                  replace H : (if t439 = (wrap64 (-x13_60)) then (if t435 = 0 then (if t437 = 0 then (some (1 == x13_60)) else (some false)) else (some false)) else (some false)) = some r := H
                                  have A108 := Aside0.mk A1080
                                  clear A1080
                                  by_cases c109 : t439 = (wrap64 (-x13_60))
                                  · rw [if_pos c109] at H
                                    have c109b0 : (t439 == (wrap64 (-x13_60))) = true := beq_iff_eq.mpr c109
                                    have c109b1 : (t439 != (wrap64 (-x13_60))) = false := bne_eq_false_iff_eq.mpr c109
                                    clear c109
                                    by_cases c110 : t435 = 0
                                    · rw [if_pos c110] at H
                                      have c110b0 : (t435 == 0) = true := beq_iff_eq.mpr c110
                                      have c110b1 : (t435 != 0) = false := bne_eq_false_iff_eq.mpr c110
                                      clear c110
                                      by_cases c111 : t437 = 0
                                      · rw [if_pos c111] at H
                                        have c111b0 : (t437 == 0) = true := beq_iff_eq.mpr c111
                                        have c111b1 : (t437 != 0) = false := bne_eq_false_iff_eq.mpr c111
                                        clear c111
                                        obtain rfl := Option.some.inj H
                                        have hnb112 := NB419_414.out
                                        have hnc112 := NB414_419.out
                                        have hnb113 := NB419_415.out
                                        have hnc113 := NB415_419.out
                                        have hnb114 := NB419_422.out
                                        have hnc114 := NB422_419.out
                                        have hnb115 := NB419_427.out
                                        have hnc115 := NB427_419.out
                                        have hcz116_0 : wc.cell? ⟨gb419, 0, none⟩ = some (.int .u64 t417) := (blk_cell BK419.out 0).trans rfl
                                        have hcz116_1 : wc.cell? ⟨gb419, 1, none⟩ = some (.int .u64 t418) := (blk_cell BK419.out 1).trans rfl
                                        have hfz116_0 := blk_frozen BK419.out 0
                                        have hfz116_1 := blk_frozen BK419.out 1
                                        have hnb117 := NB422_414.out
                                        have hnc117 := NB414_422.out
                                        have hnb118 := NB422_415.out
                                        have hnc118 := NB415_422.out
                                        have hnb119 := NB422_427.out
                                        have hnc119 := NB427_422.out
                                        have hcz120_0 : wc.cell? ⟨gb422, 0, none⟩ = some (.int .u64 t420) := (blk_cell BK422.out 0).trans rfl
                                        have hcz120_1 : wc.cell? ⟨gb422, 1, none⟩ = some (.int .u64 t421) := (blk_cell BK422.out 1).trans rfl
                                        have hfz120_0 := blk_frozen BK422.out 0
                                        have hfz120_1 := blk_frozen BK422.out 1
                                        go_wp2_with (first | (go_at_call 23; (with_reducible refine (value_Compare.calls kj90 t417 t418 t420 t421 t438 _ A106.out).mono ?_); rintro e w121 ⟨rfl, hb⟩; have n0_ := Aside0.mk (blk_below (g := gb414) (o := .cells #[.int .u64 a0_0, .int .u64 a0_1] 24 (0, 0)) (by (with_reducible repeat (first | refine blk_drewN ?_ _ | refine blk_drew ?_ | refine blk_alloc ?_ _)); exact BK414.out) hb); have n1_ := Aside0.mk (blk_below (g := gb415) (o := .cells #[.int .u64 a1_0, .int .u64 a1_1] 24 (0, 0)) (by (with_reducible repeat (first | refine blk_drewN ?_ _ | refine blk_drew ?_ | refine blk_alloc ?_ _)); exact BK415.out) hb); have n2_ := Aside0.mk (blk_below (g := gb419) (o := .cells #[.int .u64 t417, .int .u64 t418] 24 (0, 0)) (by (with_reducible repeat (first | refine blk_drewN ?_ _ | refine blk_drew ?_ | refine blk_alloc ?_ _)); exact BK419.out) hb); have n3_ := Aside0.mk (blk_below (g := gb422) (o := .cells #[.int .u64 t420, .int .u64 t421] 24 (0, 0)) (by (with_reducible repeat (first | refine blk_drewN ?_ _ | refine blk_drew ?_ | refine blk_alloc ?_ _)); exact BK422.out) hb); have n4_ := Aside0.mk (blk_below (g := gb427) (o := .cells #[.int .u64 t424, .int .u64 t425] 24 (0, 0)) (by (with_reducible repeat (first | refine blk_drewN ?_ _ | refine blk_drew ?_ | refine blk_alloc ?_ _)); exact BK427.out) hb); have n5_ := Aside0.mk (below_step (by repeat (first | (with_reducible first | exact HB.out | apply below_alloc | apply pw_below_drewN | apply below_drew1 | refine below_set ?_ GE414.out | refine below_set ?_ GE415.out | refine below_set ?_ GE419.out | refine below_set ?_ GE422.out | refine below_set ?_ GE427.out) | exact HB.out)) hb); clear BK414; clear BK415; clear BK419; clear BK422; clear BK427; clear HB; have BK414 := n0_; have BK415 := n1_; have BK419 := n2_; have BK422 := n3_; have BK427 := n4_; have HB := n5_; clear n0_ n1_ n2_ n3_ n4_ n5_; (try clear hb); (try clear hb2); (try clear hk); (try clear hi); have hcz122_0 : w121.cell? ⟨gb422, 0, none⟩ = some (.int .u64 t420) := (blk_cell BK422.out 0).trans rfl; have hcz122_1 : w121.cell? ⟨gb422, 1, none⟩ = some (.int .u64 t421) := (blk_cell BK422.out 1).trans rfl; have hfz122_0 := blk_frozen BK422.out 0; have hfz122_1 := blk_frozen BK422.out 1; have hcz123_0 : w121.cell? ⟨gb419, 0, none⟩ = some (.int .u64 t417) := (blk_cell BK419.out 0).trans rfl; have hcz123_1 : w121.cell? ⟨gb419, 1, none⟩ = some (.int .u64 t418) := (blk_cell BK419.out 1).trans rfl; have hfz123_0 := blk_frozen BK419.out 0; have hfz123_1 := blk_frozen BK419.out 1) | (go_at_call 23; (with_reducible refine (value_Compare.calls kj90 t420 t421 t417 t418 t439 _ A108.out).mono ?_); rintro e w124 ⟨rfl, hb⟩; have n0_ := Aside0.mk (blk_below (g := gb414) (o := .cells #[.int .u64 a0_0, .int .u64 a0_1] 24 (0, 0)) (by (with_reducible repeat (first | refine blk_drewN ?_ _ | refine blk_drew ?_ | refine blk_alloc ?_ _)); exact BK414.out) hb); have n1_ := Aside0.mk (blk_below (g := gb415) (o := .cells #[.int .u64 a1_0, .int .u64 a1_1] 24 (0, 0)) (by (with_reducible repeat (first | refine blk_drewN ?_ _ | refine blk_drew ?_ | refine blk_alloc ?_ _)); exact BK415.out) hb); have n2_ := Aside0.mk (blk_below (g := gb419) (o := .cells #[.int .u64 t417, .int .u64 t418] 24 (0, 0)) (by (with_reducible repeat (first | refine blk_drewN ?_ _ | refine blk_drew ?_ | refine blk_alloc ?_ _)); exact BK419.out) hb); have n3_ := Aside0.mk (blk_below (g := gb422) (o := .cells #[.int .u64 t420, .int .u64 t421] 24 (0, 0)) (by (with_reducible repeat (first | refine blk_drewN ?_ _ | refine blk_drew ?_ | refine blk_alloc ?_ _)); exact BK422.out) hb); have n4_ := Aside0.mk (blk_below (g := gb427) (o := .cells #[.int .u64 t424, .int .u64 t425] 24 (0, 0)) (by (with_reducible repeat (first | refine blk_drewN ?_ _ | refine blk_drew ?_ | refine blk_alloc ?_ _)); exact BK427.out) hb); have n5_ := Aside0.mk (below_step (by repeat (first | (with_reducible first | exact HB.out | apply below_alloc | apply pw_below_drewN | apply below_drew1 | refine below_set ?_ GE414.out | refine below_set ?_ GE415.out | refine below_set ?_ GE419.out | refine below_set ?_ GE422.out | refine below_set ?_ GE427.out) | exact HB.out)) hb); clear BK414; clear BK415; clear BK419; clear BK422; clear BK427; clear HB; have BK414 := n0_; have BK415 := n1_; have BK419 := n2_; have BK422 := n3_; have BK427 := n4_; have HB := n5_; clear n0_ n1_ n2_ n3_ n4_ n5_; (try clear hb); (try clear hb2); (try clear hk); (try clear hi)))
                                        go_ret
                                        exact ⟨by first | rfl | (simp [errW_none, errW_some] <;> rfl) | (simp [*, errW_none, errW_some] <;> rfl), by repeat (first | (with_reducible first | exact HB.out | apply below_alloc | apply pw_below_drewN | apply below_drew1 | refine below_set ?_ GE414.out | refine below_set ?_ GE415.out | refine below_set ?_ GE419.out | refine below_set ?_ GE422.out | refine below_set ?_ GE427.out) | exact HB.out)⟩
                                      · rw [if_neg c111] at H
                                        have c111b0 : (t437 == 0) = false := beq_eq_false_iff_ne.mpr c111
                                        have c111b1 : (t437 != 0) = true := bne_iff_ne.mpr c111
                                        exact absurd ((Option.some.inj H).trans hrt.out) (by decide)
                                    · rw [if_neg c110] at H
                                      have c110b0 : (t435 == 0) = false := beq_eq_false_iff_ne.mpr c110
                                      have c110b1 : (t435 != 0) = true := bne_iff_ne.mpr c110
                                      exact absurd ((Option.some.inj H).trans hrt.out) (by decide)
                                  · rw [if_neg c109] at H
                                    have c109b0 : (t439 == (wrap64 (-x13_60))) = false := beq_eq_false_iff_ne.mpr c109
                                    have c109b1 : (t439 != (wrap64 (-x13_60))) = true := bne_iff_ne.mpr c109
                                    exact absurd ((Option.some.inj H).trans hrt.out) (by decide)
                                · rw [if_neg c107] at H
                                  have c107b0 : (t438 == x13_60) = false := beq_eq_false_iff_ne.mpr c107
                                  have c107b1 : (t438 != x13_60) = true := bne_iff_ne.mpr c107
                                  exact absurd ((Option.some.inj H).trans hrt.out) (by decide)
                              · replace c105 := Bool.eq_false_iff.mpr c105
                                subst c105
                                have H1 : (some false) = some r := by rw [if_neg (show ¬ (false = true) by decide)] at H; exact H
                                clear H
                                have H := H1
                                clear H1
                                exact absurd ((Option.some.inj H).trans hrt.out) (by decide)
                            · rw [if_neg c104] at H
                              have c104b0 : (Op.bytesLess t436.toList t434.toList) = false := by simpa using c104
                              clear c104
                              by_cases c125 : t416 = true
                              · subst c125
                                have H1 : ((value_Compare.f kj90 t417 t418 t420 t421).bind fun t440 => (if t440 = x13_60 then ((value_Compare.f kj90 t420 t421 t417 t418).bind fun t441 => (if t441 = (wrap64 (-x13_60)) then (if t435 = 0 then (if t437 = 0 then (some (x19_90 == x13_60)) else (some false)) else (some false)) else (some false))) else (some false))) = some r := by rw [if_pos rfl] at H; exact H
                                clear H
                                have H := H1
                                clear H1
                                replace H := Option.bind_eq_some_iff.mp H
                                obtain ⟨t440, A1260, H⟩ := H
                                replace H : (if t440 = x13_60 then ((value_Compare.f kj90 t420 t421 t417 t418).bind fun t441 => (if t441 = (wrap64 (-x13_60)) then (if t435 = 0 then (if t437 = 0 then (some (x19_90 == x13_60)) else (some false)) else (some false)) else (some false))) else (some false)) = some r := H
                                have A126 := Aside0.mk A1260
                                clear A1260
                                by_cases c127 : t440 = x13_60
                                · rw [if_pos c127] at H
                                  have c127b0 : (t440 == x13_60) = true := beq_iff_eq.mpr c127
                                  have c127b1 : (t440 != x13_60) = false := bne_eq_false_iff_eq.mpr c127
                                  clear c127
                                  replace H := Option.bind_eq_some_iff.mp H
                                  obtain ⟨t441, A1280, H⟩ := H
                                  replace H : (if t441 = (wrap64 (-x13_60)) then (if t435 = 0 then (if t437 = 0 then (some (x19_90 == x13_60)) else (some false)) else (some false)) else (some false)) = some r := H
                                  have A128 := Aside0.mk A1280
                                  clear A1280
                                  by_cases c129 : t441 = (wrap64 (-x13_60))
                                  · rw [if_pos c129] at H
                                    have c129b0 : (t441 == (wrap64 (-x13_60))) = true := beq_iff_eq.mpr c129
                                    have c129b1 : (t441 != (wrap64 (-x13_60))) = false := bne_eq_false_iff_eq.mpr c129
                                    clear c129
                                    by_cases c130 : t435 = 0
                                    · rw [if_pos c130] at H
                                      have c130b0 : (t435 == 0) = true := beq_iff_eq.mpr c130
                                      have c130b1 : (t435 != 0) = false := bne_eq_false_iff_eq.mpr c130
                                      clear c130
                                      by_cases c131 : t437 = 0
                                      · rw [if_pos c131] at H
                                        have c131b0 : (t437 == 0) = true := beq_iff_eq.mpr c131
                                        have c131b1 : (t437 != 0) = false := bne_eq_false_iff_eq.mpr c131
                                        clear c131
                                        obtain rfl := Option.some.inj H
                                        have hnb132 := NB419_414.out
                                        have hnc132 := NB414_419.out
                                        have hnb133 := NB419_415.out
                                        have hnc133 := NB415_419.out
                                        have hnb134 := NB419_422.out
                                        have hnc134 := NB422_419.out
                                        have hnb135 := NB419_427.out
                                        have hnc135 := NB427_419.out
                                        have hcz136_0 : wc.cell? ⟨gb419, 0, none⟩ = some (.int .u64 t417) := (blk_cell BK419.out 0).trans rfl
                                        have hcz136_1 : wc.cell? ⟨gb419, 1, none⟩ = some (.int .u64 t418) := (blk_cell BK419.out 1).trans rfl
                                        have hfz136_0 := blk_frozen BK419.out 0
                                        have hfz136_1 := blk_frozen BK419.out 1
                                        have hnb137 := NB422_414.out
                                        have hnc137 := NB414_422.out
                                        have hnb138 := NB422_415.out
                                        have hnc138 := NB415_422.out
                                        have hnb139 := NB422_427.out
                                        have hnc139 := NB427_422.out
                                        have hcz140_0 : wc.cell? ⟨gb422, 0, none⟩ = some (.int .u64 t420) := (blk_cell BK422.out 0).trans rfl
                                        have hcz140_1 : wc.cell? ⟨gb422, 1, none⟩ = some (.int .u64 t421) := (blk_cell BK422.out 1).trans rfl
                                        have hfz140_0 := blk_frozen BK422.out 0
                                        have hfz140_1 := blk_frozen BK422.out 1
                                        go_wp2_with (first | (go_at_call 23; (with_reducible refine (value_Compare.calls kj90 t417 t418 t420 t421 t440 _ A126.out).mono ?_); rintro e w141 ⟨rfl, hb⟩; have n0_ := Aside0.mk (blk_below (g := gb414) (o := .cells #[.int .u64 a0_0, .int .u64 a0_1] 24 (0, 0)) (by (with_reducible repeat (first | refine blk_drewN ?_ _ | refine blk_drew ?_ | refine blk_alloc ?_ _)); exact BK414.out) hb); have n1_ := Aside0.mk (blk_below (g := gb415) (o := .cells #[.int .u64 a1_0, .int .u64 a1_1] 24 (0, 0)) (by (with_reducible repeat (first | refine blk_drewN ?_ _ | refine blk_drew ?_ | refine blk_alloc ?_ _)); exact BK415.out) hb); have n2_ := Aside0.mk (blk_below (g := gb419) (o := .cells #[.int .u64 t417, .int .u64 t418] 24 (0, 0)) (by (with_reducible repeat (first | refine blk_drewN ?_ _ | refine blk_drew ?_ | refine blk_alloc ?_ _)); exact BK419.out) hb); have n3_ := Aside0.mk (blk_below (g := gb422) (o := .cells #[.int .u64 t420, .int .u64 t421] 24 (0, 0)) (by (with_reducible repeat (first | refine blk_drewN ?_ _ | refine blk_drew ?_ | refine blk_alloc ?_ _)); exact BK422.out) hb); have n4_ := Aside0.mk (blk_below (g := gb427) (o := .cells #[.int .u64 t424, .int .u64 t425] 24 (0, 0)) (by (with_reducible repeat (first | refine blk_drewN ?_ _ | refine blk_drew ?_ | refine blk_alloc ?_ _)); exact BK427.out) hb); have n5_ := Aside0.mk (below_step (by repeat (first | (with_reducible first | exact HB.out | apply below_alloc | apply pw_below_drewN | apply below_drew1 | refine below_set ?_ GE414.out | refine below_set ?_ GE415.out | refine below_set ?_ GE419.out | refine below_set ?_ GE422.out | refine below_set ?_ GE427.out) | exact HB.out)) hb); clear BK414; clear BK415; clear BK419; clear BK422; clear BK427; clear HB; have BK414 := n0_; have BK415 := n1_; have BK419 := n2_; have BK422 := n3_; have BK427 := n4_; have HB := n5_; clear n0_ n1_ n2_ n3_ n4_ n5_; (try clear hb); (try clear hb2); (try clear hk); (try clear hi); have hcz142_0 : w141.cell? ⟨gb422, 0, none⟩ = some (.int .u64 t420) := (blk_cell BK422.out 0).trans rfl; have hcz142_1 : w141.cell? ⟨gb422, 1, none⟩ = some (.int .u64 t421) := (blk_cell BK422.out 1).trans rfl; have hfz142_0 := blk_frozen BK422.out 0; have hfz142_1 := blk_frozen BK422.out 1; have hcz143_0 : w141.cell? ⟨gb419, 0, none⟩ = some (.int .u64 t417) := (blk_cell BK419.out 0).trans rfl; have hcz143_1 : w141.cell? ⟨gb419, 1, none⟩ = some (.int .u64 t418) := (blk_cell BK419.out 1).trans rfl; have hfz143_0 := blk_frozen BK419.out 0; have hfz143_1 := blk_frozen BK419.out 1) | (go_at_call 23; (with_reducible refine (value_Compare.calls kj90 t420 t421 t417 t418 t441 _ A128.out).mono ?_); rintro e w144 ⟨rfl, hb⟩; have n0_ := Aside0.mk (blk_below (g := gb414) (o := .cells #[.int .u64 a0_0, .int .u64 a0_1] 24 (0, 0)) (by (with_reducible repeat (first | refine blk_drewN ?_ _ | refine blk_drew ?_ | refine blk_alloc ?_ _)); exact BK414.out) hb); have n1_ := Aside0.mk (blk_below (g := gb415) (o := .cells #[.int .u64 a1_0, .int .u64 a1_1] 24 (0, 0)) (by (with_reducible repeat (first | refine blk_drewN ?_ _ | refine blk_drew ?_ | refine blk_alloc ?_ _)); exact BK415.out) hb); have n2_ := Aside0.mk (blk_below (g := gb419) (o := .cells #[.int .u64 t417, .int .u64 t418] 24 (0, 0)) (by (with_reducible repeat (first | refine blk_drewN ?_ _ | refine blk_drew ?_ | refine blk_alloc ?_ _)); exact BK419.out) hb); have n3_ := Aside0.mk (blk_below (g := gb422) (o := .cells #[.int .u64 t420, .int .u64 t421] 24 (0, 0)) (by (with_reducible repeat (first | refine blk_drewN ?_ _ | refine blk_drew ?_ | refine blk_alloc ?_ _)); exact BK422.out) hb); have n4_ := Aside0.mk (blk_below (g := gb427) (o := .cells #[.int .u64 t424, .int .u64 t425] 24 (0, 0)) (by (with_reducible repeat (first | refine blk_drewN ?_ _ | refine blk_drew ?_ | refine blk_alloc ?_ _)); exact BK427.out) hb); have n5_ := Aside0.mk (below_step (by repeat (first | (with_reducible first | exact HB.out | apply below_alloc | apply pw_below_drewN | apply below_drew1 | refine below_set ?_ GE414.out | refine below_set ?_ GE415.out | refine below_set ?_ GE419.out | refine below_set ?_ GE422.out | refine below_set ?_ GE427.out) | exact HB.out)) hb); clear BK414; clear BK415; clear BK419; clear BK422; clear BK427; clear HB; have BK414 := n0_; have BK415 := n1_; have BK419 := n2_; have BK422 := n3_; have BK427 := n4_; have HB := n5_; clear n0_ n1_ n2_ n3_ n4_ n5_; (try clear hb); (try clear hb2); (try clear hk); (try clear hi)))
                                        go_ret
                                        exact ⟨by first | rfl | (simp [errW_none, errW_some] <;> rfl) | (simp [*, errW_none, errW_some] <;> rfl), by repeat (first | (with_reducible first | exact HB.out | apply below_alloc | apply pw_below_drewN | apply below_drew1 | refine below_set ?_ GE414.out | refine below_set ?_ GE415.out | refine below_set ?_ GE419.out | refine below_set ?_ GE422.out | refine below_set ?_ GE427.out) | exact HB.out)⟩
                                      · rw [if_neg c131] at H
                                        have c131b0 : (t437 == 0) = false := beq_eq_false_iff_ne.mpr c131
                                        have c131b1 : (t437 != 0) = true := bne_iff_ne.mpr c131
                                        exact absurd ((Option.some.inj H).trans hrt.out) (by decide)
                                    · rw [if_neg c130] at H
                                      have c130b0 : (t435 == 0) = false := beq_eq_false_iff_ne.mpr c130
                                      have c130b1 : (t435 != 0) = true := bne_iff_ne.mpr c130
                                      exact absurd ((Option.some.inj H).trans hrt.out) (by decide)
                                  · rw [if_neg c129] at H
                                    have c129b0 : (t441 == (wrap64 (-x13_60))) = false := beq_eq_false_iff_ne.mpr c129
                                    have c129b1 : (t441 != (wrap64 (-x13_60))) = true := bne_iff_ne.mpr c129
                                    exact absurd ((Option.some.inj H).trans hrt.out) (by decide)
                                · rw [if_neg c127] at H
                                  have c127b0 : (t440 == x13_60) = false := beq_eq_false_iff_ne.mpr c127
                                  have c127b1 : (t440 != x13_60) = true := bne_iff_ne.mpr c127
                                  exact absurd ((Option.some.inj H).trans hrt.out) (by decide)
                              · replace c125 := Bool.eq_false_iff.mpr c125
                                subst c125
                                have H1 : (some false) = some r := by rw [if_neg (show ¬ (false = true) by decide)] at H; exact H
                                clear H
                                have H := H1
                                clear H1
                                exact absurd ((Option.some.inj H).trans hrt.out) (by decide)

end Go.Proofs.YtofnhgpiipmegaaDoor.PV
