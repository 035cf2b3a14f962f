/- ### value_Parse: function 10 -/
import Derived.Test.YtofnhgpiipmegaaDoorPVx0
import Derived.Test.YtofnhgpiipmegaaDoorPVx2
import Derived.Test.YtofnhgpiipmegaaDoorPVx4
import Derived.Test.YtofnhgpiipmegaaDoorHNumber
import Derived.Test.YtofnhgpiipmegaaDoorHPiecesAll
-- Printed by this session's gprint.py (the kit's printer, with functions given by hand). Not trusted: Lean checks it.
namespace Go.Proofs.YtofnhgpiipmegaaDoor.PV
open Go.RowKit Go.Proofs.YtofnhgpiipmegaaDoorW.PrintWords Go.Proofs.YtofnhgpiipmegaaDoorW.PrintLast Go.Proofs.YtofnhgpiipmegaaDoorW.PrintMore
attribute [local go_sem] max2_int min2_int max_two min_two max_three min_three max_four min_four   -- for this text's walks alone
set_option linter.unusedVariables false
set_option linter.unusedSimpArgs false
mutual
def value_Parse.j0 : Nat → ByteArray → Int → ByteArray → Int → Option (Int × Int × Int)
 | 0, _, _, _, _ => none
 | k + 1, x0, x1, x6, x7 => (value_number.f x6 x7).bind fun bt151 => (if bt151.2.2.2 = true then (if bt151.2.2.1 = true then ((value_Fits.f bt151.1 bt151.2.1 x1).bind fun t156 => (value_Parse.j1 k x0 x1 bt151.2.2.2 (!t156) bt151.1 bt151.2.1)) else (value_Parse.j1 k x0 x1 bt151.2.2.2 true bt151.1 bt151.2.1)) else (value_Parse.j1 k x0 x1 bt151.2.2.2 false bt151.1 bt151.2.1))
def value_Parse.j1 : Nat → ByteArray → Int → Bool → Bool → Int → Int → Option (Int × Int × Int)
 | 0, _, _, _, _, _, _ => none
 | k + 1, x0, x1, x14, x55, x156000, x156001 => if x55 = true then (some (0, 0, 11)) else (if x14 = true then (some (x156000, x156001, 0)) else ((value_has.f x1 4).bind fun t157 => (if t157 = true then ((value_pieces.f x0 (⟨#[46]⟩ : ByteArray) 10 4).bind fun bt158 => (if bt158.2 = true then ((value_From.f k bt158.1 x1).bind fun bt160 => (some (bt160.1, bt160.2.1, bt160.2.2))) else (value_Parse.j2 k x0 x1))) else (value_Parse.j2 k x0 x1))))
def value_Parse.j2 : Nat → ByteArray → Int → Option (Int × Int × Int)
 | 0, _, _ => none
 | k + 1, x0, x1 => (value_has.f x1 5).bind fun t163 => (if t163 = true then ((value_pieces.f x0 (⟨#[58]⟩ : ByteArray) 16 (wrap64 (Int.tdiv x1 8))).bind fun bt164 => (if bt164.2 = true then ((value_From.f k bt164.1 x1).bind fun bt166 => (some (bt166.1, bt166.2.1, bt166.2.2))) else (some (0, 0, 12)))) else (some (0, 0, 12)))
end
def value_Parse.f (k : Nat) (a0 : ByteArray) (a1 : Int) : Option (Int × Int × Int) := (value_isWidth.f a1).bind fun t146 => (if t146 = true then ((strings_CutPrefix.f a0 (⟨#[48, 120]⟩ : ByteArray)).bind fun bt147 => (if bt147.2 = true then (value_Parse.j0 k a0 a1 bt147.1 16) else ((strings_CutPrefix.f a0 (⟨#[48, 98]⟩ : ByteArray)).bind fun bt149 => (if bt149.2 = true then (value_Parse.j0 k a0 a1 bt149.1 2) else (value_Parse.j0 k a0 a1 a0 10))))) else (some (0, 0, 10)))
theorem value_Parse.mono_l : ∀ k, (∀ y0 y1 y2 y3, LeO (value_Parse.j0 k y0 y1 y2 y3) (value_Parse.j0 (k + 1) y0 y1 y2 y3)) ∧ (∀ y0 y1 y2 y3 y4 y5, LeO (value_Parse.j1 k y0 y1 y2 y3 y4 y5) (value_Parse.j1 (k + 1) y0 y1 y2 y3 y4 y5)) ∧ (∀ y0 y1, LeO (value_Parse.j2 k y0 y1) (value_Parse.j2 (k + 1) y0 y1))
 | 0 => ⟨fun _ _ _ _ r h => by simp [value_Parse.j0] at h, fun _ _ _ _ _ _ r h => by simp [value_Parse.j1] at h, fun _ _ r h => by simp [value_Parse.j2] at h⟩
 | k + 1 => by
  obtain ⟨ih0, ih1, ih2⟩ := value_Parse.mono_l k
  refine ⟨?_, ?_, ?_⟩
  ·
   intro y0 y1 y2 y3
   unfold value_Parse.j0
   repeat' first
   | (with_reducible exact ih0 _ _ _ _)
   | (with_reducible exact ih1 _ _ _ _ _ _)
   | (with_reducible exact ih2 _ _)
   | (with_reducible exact value_From.mono _ _ _)
   | (with_reducible exact LeO.refl _)
   | (with_reducible exact LeO.none _)
   | (with_reducible refine LeO.ite ?_ ?_)
   | (with_reducible refine LeO.bind ?_ (fun _ => ?_))
   | exact ih0 _ _ _ _
   | exact ih1 _ _ _ _ _ _
   | exact ih2 _ _
   | exact value_From.mono _ _ _
   | exact LeO.none _
   | refine LeO.ite ?_ ?_
   | refine LeO.bind ?_ (fun _ => ?_)
  ·
   intro y0 y1 y2 y3 y4 y5
   unfold value_Parse.j1
   repeat' first
   | (with_reducible exact ih0 _ _ _ _)
   | (with_reducible exact ih1 _ _ _ _ _ _)
   | (with_reducible exact ih2 _ _)
   | (with_reducible exact value_From.mono _ _ _)
   | (with_reducible exact LeO.refl _)
   | (with_reducible exact LeO.none _)
   | (with_reducible refine LeO.ite ?_ ?_)
   | (with_reducible refine LeO.bind ?_ (fun _ => ?_))
   | exact ih0 _ _ _ _
   | exact ih1 _ _ _ _ _ _
   | exact ih2 _ _
   | exact value_From.mono _ _ _
   | exact LeO.none _
   | refine LeO.ite ?_ ?_
   | refine LeO.bind ?_ (fun _ => ?_)
  ·
   intro y0 y1
   unfold value_Parse.j2
   repeat' first
   | (with_reducible exact ih0 _ _ _ _)
   | (with_reducible exact ih1 _ _ _ _ _ _)
   | (with_reducible exact ih2 _ _)
   | (with_reducible exact value_From.mono _ _ _)
   | (with_reducible exact LeO.refl _)
   | (with_reducible exact LeO.none _)
   | (with_reducible refine LeO.ite ?_ ?_)
   | (with_reducible refine LeO.bind ?_ (fun _ => ?_))
   | exact ih0 _ _ _ _
   | exact ih1 _ _ _ _ _ _
   | exact ih2 _ _
   | exact value_From.mono _ _ _
   | exact LeO.none _
   | refine LeO.ite ?_ ?_
   | refine LeO.bind ?_ (fun _ => ?_)
theorem value_Parse.mono : ∀ a0 a1 k, LeO (value_Parse.f k a0 a1) (value_Parse.f (k + 1) a0 a1) := by
 intro a0 a1 k
 obtain ⟨ih0, ih1, ih2⟩ := value_Parse.mono_l k
 unfold value_Parse.f
 repeat' first
   | (with_reducible exact ih0 _ _ _ _)
   | (with_reducible exact ih1 _ _ _ _ _ _)
   | (with_reducible exact ih2 _ _)
   | (with_reducible exact value_From.mono _ _ _)
   | (with_reducible exact LeO.refl _)
   | (with_reducible exact LeO.none _)
   | (with_reducible refine LeO.ite ?_ ?_)
   | (with_reducible refine LeO.bind ?_ (fun _ => ?_))
   | exact ih0 _ _ _ _
   | exact ih1 _ _ _ _ _ _
   | exact ih2 _ _
   | exact value_From.mono _ _ _
   | exact LeO.none _
   | refine LeO.ite ?_ ?_
   | refine LeO.bind ?_ (fun _ => ?_)
set_option maxHeartbeats 8000000 in
set_option maxRecDepth 100000 in
theorem value_Parse.calls (k : Nat) (a0 : ByteArray) (a1 : Int) (r1 : Int) (r2 : Int) (r3 : Int) (w : World) (h : value_Parse.f k a0 a1 = some (r1, r2, r3)) :
  Calls Tryd.prog 10 #[.string a0, .int .i64 a1] w fun e w' => e = .returned (.tuple #[.agg #[.int .u64 r1, .int .u64 r2], .int .i64 r3]) ∧ Below w.heap.size w w' := by
 have hu24 := Tryd.underlying24
 have HB := Aside0.mk (Below.refl w.heap.size w)
 have H : ((value_isWidth.f a1).bind fun t146 => (if t146 = true then ((strings_CutPrefix.f a0 (⟨#[48, 120]⟩ : ByteArray)).bind fun bt147 => (if bt147.2 = true then (value_Parse.j0 k a0 a1 bt147.1 16) else ((strings_CutPrefix.f a0 (⟨#[48, 98]⟩ : ByteArray)).bind fun bt149 => (if bt149.2 = true then (value_Parse.j0 k a0 a1 bt149.1 2) else (value_Parse.j0 k a0 a1 a0 10))))) else (some (0, 0, 10)))) = some (r1, r2, r3) := h
 clear h
 replace H := Option.bind_eq_some_iff.mp H
 obtain ⟨t146, A30, H⟩ := H
 replace H : (if t146 = true then ((strings_CutPrefix.f a0 (⟨#[48, 120]⟩ : ByteArray)).bind fun bt147 => (if bt147.2 = true then (value_Parse.j0 k a0 a1 bt147.1 16) else ((strings_CutPrefix.f a0 (⟨#[48, 98]⟩ : ByteArray)).bind fun bt149 => (if bt149.2 = true then (value_Parse.j0 k a0 a1 bt149.1 2) else (value_Parse.j0 k a0 a1 a0 10))))) else (some (0, 0, 10))) = some (r1, r2, r3) := H
 have A3 := Aside0.mk A30
 clear A30
 by_cases c4 : t146 = true
 ·
  subst c4
  have H1 : ((strings_CutPrefix.f a0 (⟨#[48, 120]⟩ : ByteArray)).bind fun bt147 => (if bt147.2 = true then (value_Parse.j0 k a0 a1 bt147.1 16) else ((strings_CutPrefix.f a0 (⟨#[48, 98]⟩ : ByteArray)).bind fun bt149 => (if bt149.2 = true then (value_Parse.j0 k a0 a1 bt149.1 2) else (value_Parse.j0 k a0 a1 a0 10))))) = some (r1, r2, r3) := by rw [if_pos rfl] at H; exact H
  clear H
  have H := H1
  clear H1
  replace H := Option.bind_eq_some_iff.mp H
  obtain ⟨⟨t147, t148⟩, A50, H⟩ := H
  replace H : (if t148 = true then (value_Parse.j0 k a0 a1 t147 16) else ((strings_CutPrefix.f a0 (⟨#[48, 98]⟩ : ByteArray)).bind fun bt149 => (if bt149.2 = true then (value_Parse.j0 k a0 a1 bt149.1 2) else (value_Parse.j0 k a0 a1 a0 10)))) = some (r1, r2, r3) := H
  have A5 := Aside0.mk A50
  clear A50
  have HC6 := Aside0.mk H
  clear H
  go_enter Tryd.func10, Tryd.ntmps10
  go_upto_if 29 with (first | ((with_reducible refine gate_dst (N := 4) rfl ?_); refine box_event ?hg (N := 4) ?hd (cs := #[.int .u64 0, .int .u64 0]) (t := 24) ?hr ?_; (case hd => rfl); (case hg => rfl); (case hr => first | (go_simp; done) | (go_simp; rfl)); intro gb145 hg w7 hbox hb; have n0_ := Aside0.mk (below_step (by repeat (first | (with_reducible first | exact HB.out | apply below_alloc | apply pw_below_drewN | apply below_drew1) | exact HB.out)) hb); have n1_ := Aside0.mk (hbox); have n2_ := Aside0.mk ((by rw [hg]; exact (below_size (by repeat (first | (with_reducible first | exact HB.out | apply below_alloc | apply pw_below_drewN | apply below_drew1) | exact HB.out))) : w.heap.size ≤ gb145)); have n3_ := Aside0.mk ((by rw [hg]; exact (below_size (by repeat (first | (with_reducible first | exact HB.out | apply below_alloc | apply pw_below_drewN | apply below_drew1) | exact HB.out))) : w.heap.size ≤ gb145)); clear HB; have HB := n0_; have BK145 := n1_; have GW145 := n2_; have GE145 := n3_; clear n0_ n1_ n2_ n3_; clear hb hbox hg) | ((with_reducible refine gate_callee (f := 42) rfl ?_); refine goesL_ (some 20) rfl rfl Tryd.func42 (by kernel_rfl) rfl #[.int .i64 a1] rfl (by (try simp only [List.map_toArray, List.map_cons, List.map_nil]); first | done | rfl | (simp only [List.length_drop, List.length_take]; rfl)) ?_; (with_reducible refine (value_isWidth.calls a1 true _ A3.out).mono ?_); rintro e w' ⟨rfl, ⟨nd, rfl⟩⟩; refine ⟨_, rfl, ?_⟩) | ((with_reducible refine gate_callee (f := 43) rfl ?_); refine goesL_ (some 26) rfl rfl Tryd.func43 (by kernel_rfl) rfl #[.string a0, .string (⟨#[48, 120]⟩ : ByteArray)] rfl (by (try simp only [List.map_toArray, List.map_cons, List.map_nil]); first | done | rfl | (simp only [List.length_drop, List.length_take]; rfl)) ?_; (with_reducible refine (strings_CutPrefix.calls a0 (⟨#[48, 120]⟩ : ByteArray) t147 t148 _ A5.out).mono ?_); rintro e w' ⟨rfl, ⟨nd, rfl⟩⟩; refine ⟨_, rfl, ?_⟩))
  (try simp only [Act.put, List.setIfInBounds_toArray, List.set_cons_zero, List.set_cons_succ])
  go_cut [6, 7] (fun v6 v7 wc => ∃ (kq : Nat) (x6_5 : ByteArray) (x7_5 : Int), v6 = .string x6_5 ∧ v7 = .int .u64 x7_5 ∧ Aside0 (value_Parse.j0 kq a0 a1 x6_5 x7_5 = some (r1, r2, r3)) ∧ Aside0 (kq ≤ k) ∧ Aside0 (wc.heap[gb145]? = some (.cells #[.int .u64 0, .int .u64 0] 24 (0, 0))) ∧ Aside0 (Below w.heap.size w wc))
  case first =>
   have H := HC6.out
   clear HC6
   by_cases c8 : t148 = true
   ·
    subst c8
    have H1 : (value_Parse.j0 k a0 a1 t147 16) = some (r1, r2, r3) := by rw [if_pos rfl] at H; exact H
    clear H
    have H := H1
    clear H1
    have H' := Aside0.mk H
    clear H
    go_wp2
    go_meet
    case rel => exact ⟨_, (t147), (16), (by first | rfl | (simp; done) | (simp [*]; done)), (by first | rfl | (simp; done) | (simp [*]; done)), H', ⟨by first | omega | exact Nat.le_refl _⟩, ⟨by (with_reducible repeat (first | refine blk_drewN ?_ _ | refine blk_drew ?_ | refine blk_alloc ?_ _)); exact BK145.out⟩, ⟨by repeat (first | (with_reducible first | exact HB.out | apply below_alloc | apply pw_below_drewN | apply below_drew1 | refine below_set ?_ GE145.out) | exact HB.out)⟩⟩
   ·
    replace c8 := Bool.eq_false_iff.mpr c8
    subst c8
    have H1 : ((strings_CutPrefix.f a0 (⟨#[48, 98]⟩ : ByteArray)).bind fun bt149 => (if bt149.2 = true then (value_Parse.j0 k a0 a1 bt149.1 2) else (value_Parse.j0 k a0 a1 a0 10))) = some (r1, r2, r3) := by rw [if_neg (show ¬ (false = true) by decide)] at H; exact H
    clear H
    have H := H1
    clear H1
    replace H := Option.bind_eq_some_iff.mp H
    obtain ⟨⟨t149, t150⟩, A90, H⟩ := H
    replace H : (if t150 = true then (value_Parse.j0 k a0 a1 t149 2) else (value_Parse.j0 k a0 a1 a0 10)) = some (r1, r2, r3) := H
    have A9 := Aside0.mk A90
    clear A90
    by_cases c10 : t150 = true
    ·
     subst c10
     have H1 : (value_Parse.j0 k a0 a1 t149 2) = some (r1, r2, r3) := by rw [if_pos rfl] at H; exact H
     clear H
     have H := H1
     clear H1
     have H' := Aside0.mk H
     clear H
     go_wp2_with (first | ((with_reducible refine gate_callee (f := 43) rfl ?_); refine goesL_ (some 33) rfl rfl Tryd.func43 (by kernel_rfl) rfl #[.string a0, .string (⟨#[48, 98]⟩ : ByteArray)] rfl (by (try simp only [List.map_toArray, List.map_cons, List.map_nil]); first | done | rfl | (simp only [List.length_drop, List.length_take]; rfl)) ?_; (with_reducible refine (strings_CutPrefix.calls a0 (⟨#[48, 98]⟩ : ByteArray) t149 true _ A9.out).mono ?_); rintro e w' ⟨rfl, ⟨nd, rfl⟩⟩; refine ⟨_, rfl, ?_⟩))
     go_meet
     case rel => exact ⟨_, (t149), (2), (by first | rfl | (simp; done) | (simp [*]; done)), (by first | rfl | (simp; done) | (simp [*]; done)), H', ⟨by first | omega | exact Nat.le_refl _⟩, ⟨by (with_reducible repeat (first | refine blk_drewN ?_ _ | refine blk_drew ?_ | refine blk_alloc ?_ _)); exact BK145.out⟩, ⟨by repeat (first | (with_reducible first | exact HB.out | apply below_alloc | apply pw_below_drewN | apply below_drew1 | refine below_set ?_ GE145.out) | exact HB.out)⟩⟩
    ·
     replace c10 := Bool.eq_false_iff.mpr c10
     subst c10
     have H1 : (value_Parse.j0 k a0 a1 a0 10) = some (r1, r2, r3) := by rw [if_neg (show ¬ (false = true) by decide)] at H; exact H
     clear H
     have H := H1
     clear H1
     have H' := Aside0.mk H
     clear H
     go_wp2_with (first | ((with_reducible refine gate_callee (f := 43) rfl ?_); refine goesL_ (some 33) rfl rfl Tryd.func43 (by kernel_rfl) rfl #[.string a0, .string (⟨#[48, 98]⟩ : ByteArray)] rfl (by (try simp only [List.map_toArray, List.map_cons, List.map_nil]); first | done | rfl | (simp only [List.length_drop, List.length_take]; rfl)) ?_; (with_reducible refine (strings_CutPrefix.calls a0 (⟨#[48, 98]⟩ : ByteArray) t149 false _ A9.out).mono ?_); rintro e w' ⟨rfl, ⟨nd, rfl⟩⟩; refine ⟨_, rfl, ?_⟩))
     go_meet
     case rel => exact ⟨_, (a0), (10), (by first | rfl | (simp; done) | (simp [*]; done)), (by first | rfl | (simp; done) | (simp [*]; done)), H', ⟨by first | omega | exact Nat.le_refl _⟩, ⟨by (with_reducible repeat (first | refine blk_drewN ?_ _ | refine blk_drew ?_ | refine blk_alloc ?_ _)); exact BK145.out⟩, ⟨by repeat (first | (with_reducible first | exact HB.out | apply below_alloc | apply pw_below_drewN | apply below_drew1 | refine below_set ?_ GE145.out) | exact HB.out)⟩⟩
  case rest =>
   clear HC6
   try clear c1
   try clear p2
   try clear c4
   try clear c8
   try clear c10
   obtain ⟨kq, x6_5, x7_5, rfl, rfl, HA, HJ5, BK145, HB⟩ := hcut
   cases kq with
   | zero => exact absurd HA.out (by simp [value_Parse.j0])
   | succ kj5 =>
    have H := HA.out
    clear HA
    simp only [value_Parse.j0] at H
    replace H := Option.bind_eq_some_iff.mp H
    obtain ⟨⟨t151, t152, t153, t154⟩, A110, H⟩ := H
    replace H : (if t154 = true then (if t153 = true then ((value_Fits.f t151 t152 a1).bind fun t156 => (value_Parse.j1 kj5 a0 a1 t154 (!t156) t151 t152)) else (value_Parse.j1 kj5 a0 a1 t154 true t151 t152)) else (value_Parse.j1 kj5 a0 a1 t154 false t151 t152)) = some (r1, r2, r3) := H
    have A11 := Aside0.mk A110
    clear A110
    have HC12 := Aside0.mk H
    clear H
    go_upto_region 11 with (first | ((with_reducible refine gate_callee (f := 44) rfl ?_); refine goesL_ (some 41) rfl rfl Tryd.func44 (by kernel_rfl) rfl #[.string x6_5, .int .u64 x7_5] rfl (by (try simp only [List.map_toArray, List.map_cons, List.map_nil]); first | done | rfl | (simp only [List.length_drop, List.length_take]; rfl)) ?_; (with_reducible refine (value_number.calls x6_5 x7_5 t151 t152 t153 t154 _ A11.out).mono ?_); rintro e w13 ⟨rfl, hb⟩; refine ⟨_, rfl, ?_⟩; have n0_ := Aside0.mk (blk_below (g := gb145) (o := .cells #[.int .u64 0, .int .u64 0] 24 (0, 0)) (by (with_reducible repeat (first | refine blk_drewN ?_ _ | refine blk_drew ?_ | refine blk_alloc ?_ _)); exact BK145.out) hb); have n1_ := Aside0.mk (below_step (by repeat (first | (with_reducible first | exact HB.out | apply below_alloc | apply pw_below_drewN | apply below_drew1 | refine below_set ?_ GE145.out) | exact HB.out)) hb); clear BK145; clear HB; have BK145 := n0_; have HB := n1_; clear n0_ n1_; (try clear hb); (try clear hb2); (try clear hk); (try clear hi)) | ((with_reducible refine gate_dst (N := 12) rfl ?_); refine box_event ?hg (N := 12) ?hd (cs := #[.int .u64 0, .int .u64 0]) (t := 24) ?hr ?_; (case hd => rfl); (case hg => rfl); (case hr => first | (go_simp; done) | (go_simp; rfl)); intro gb155 hg w14 hbox hb; have n0_ := Aside0.mk (blk_below (g := gb145) (o := .cells #[.int .u64 0, .int .u64 0] 24 (0, 0)) (by (with_reducible repeat (first | refine blk_drewN ?_ _ | refine blk_drew ?_ | refine blk_alloc ?_ _)); exact BK145.out) hb); have n1_ := Aside0.mk (below_step (by repeat (first | (with_reducible first | exact HB.out | apply below_alloc | apply pw_below_drewN | apply below_drew1 | refine below_set ?_ GE145.out) | exact HB.out)) hb); have n2_ := Aside0.mk (hbox); have n3_ := Aside0.mk ((by rw [hg]; exact (below_size (by repeat (first | (with_reducible first | exact HB.out | apply below_alloc | apply pw_below_drewN | apply below_drew1 | refine below_set ?_ GE145.out) | exact HB.out))) : w.heap.size ≤ gb155)); have n4_ := Aside0.mk ((by rw [hg]; exact (below_size (by repeat (first | (with_reducible first | exact HB.out | apply below_alloc | apply pw_below_drewN | apply below_drew1 | refine below_set ?_ GE145.out) | exact HB.out))) : w.heap.size ≤ gb155)); have n5_ := Aside0.mk ((by rw [hg]; exact Nat.ne_of_lt (blk_lt (g := gb145) (o := .cells #[.int .u64 0, .int .u64 0] 24 (0, 0)) (by (with_reducible repeat (first | refine blk_drewN ?_ _ | refine blk_drew ?_ | refine blk_alloc ?_ _)); exact BK145.out)) : gb145 ≠ gb155)); have n6_ := Aside0.mk ((by rw [hg]; exact Nat.ne_of_gt (blk_lt (g := gb145) (o := .cells #[.int .u64 0, .int .u64 0] 24 (0, 0)) (by (with_reducible repeat (first | refine blk_drewN ?_ _ | refine blk_drew ?_ | refine blk_alloc ?_ _)); exact BK145.out)) : gb155 ≠ gb145)); clear BK145; clear HB; have BK145 := n0_; have HB := n1_; have BK155 := n2_; have GW155 := n3_; have GE155 := n4_; have NB145_155 := n5_; have NB155_145 := n6_; clear n0_ n1_ n2_ n3_ n4_ n5_ n6_; clear hb hbox hg; have hnb15 := NB155_145.out; have hnc15 := NB145_155.out; have hcz16_0 : w14.cell? ⟨gb155, 0, none⟩ = some (.int .u64 0) := (blk_cell BK155.out 0).trans rfl; have hcz16_1 : w14.cell? ⟨gb155, 1, none⟩ = some (.int .u64 0) := (blk_cell BK155.out 1).trans rfl; have hfz16_0 := blk_frozen BK155.out 0; have hfz16_1 := blk_frozen BK155.out 1))
    (try simp only [Act.put, List.setIfInBounds_toArray, List.set_cons_zero, List.set_cons_succ])
    go_cut [55] (fun v55 wc => ∃ (kq : Nat) (x55_11 : Bool), v55 = .bool x55_11 ∧ Aside0 (value_Parse.j1 kq a0 a1 t154 x55_11 t151 t152 = some (r1, r2, r3)) ∧ Aside0 (kq ≤ kj5) ∧ Aside0 (wc.heap[gb145]? = some (.cells #[.int .u64 0, .int .u64 0] 24 (0, 0))) ∧ Aside0 (wc.heap[gb155]? = some (.cells #[.int .u64 t151, .int .u64 t152] 24 (0, 0))) ∧ Aside0 (Below w.heap.size w wc))
    case first =>
     have H := HC12.out
     clear HC12
     by_cases c17 : t154 = true
     ·
      subst c17
      have H1 : (if t153 = true then ((value_Fits.f t151 t152 a1).bind fun t156 => (value_Parse.j1 kj5 a0 a1 true (!t156) t151 t152)) else (value_Parse.j1 kj5 a0 a1 true true t151 t152)) = some (r1, r2, r3) := by rw [if_pos rfl] at H; exact H
      clear H
      have H := H1
      clear H1
      by_cases c18 : t153 = true
      ·
       subst c18
       have H1 : ((value_Fits.f t151 t152 a1).bind fun t156 => (value_Parse.j1 kj5 a0 a1 true (!t156) t151 t152)) = some (r1, r2, r3) := by rw [if_pos rfl] at H; exact H
       clear H
       have H := H1
       clear H1
       replace H := Option.bind_eq_some_iff.mp H
       obtain ⟨t156, A190, H⟩ := H
       replace H : (value_Parse.j1 kj5 a0 a1 true (!t156) t151 t152) = some (r1, r2, r3) := H
       have A19 := Aside0.mk A190
       clear A190
       have H' := Aside0.mk H
       clear H
       have hnb20 := NB155_145.out
       have hnc20 := NB145_155.out
       have hcz21_0 : w14.cell? ⟨gb155, 0, none⟩ = some (.int .u64 0) := (blk_cell BK155.out 0).trans rfl
       have hcz21_1 : w14.cell? ⟨gb155, 1, none⟩ = some (.int .u64 0) := (blk_cell BK155.out 1).trans rfl
       have hfz21_0 := blk_frozen BK155.out 0
       have hfz21_1 := blk_frozen BK155.out 1
       go_wp2_with (first | (go_at_call 19; (with_reducible refine (value_Fits.calls t151 t152 a1 t156 _ A19.out).mono ?_); rintro e w22 ⟨rfl, hb⟩; have n0_ := Aside0.mk (blk_below (g := gb145) (o := .cells #[.int .u64 0, .int .u64 0] 24 (0, 0)) (by (with_reducible repeat (first | refine blk_drewN ?_ _ | refine blk_drew ?_ | refine blk_alloc ?_ _)); refine blk_far ?_ NB145_155.out _; (with_reducible repeat (first | refine blk_drewN ?_ _ | refine blk_drew ?_ | refine blk_alloc ?_ _)); refine blk_far ?_ NB145_155.out _; (with_reducible repeat (first | refine blk_drewN ?_ _ | refine blk_drew ?_ | refine blk_alloc ?_ _)); exact BK145.out) hb); have n1_ := Aside0.mk (blk_below (g := gb155) (o := .cells #[.int .u64 t151, .int .u64 t152] 24 (0, 0)) (by (with_reducible repeat (first | refine blk_drewN ?_ _ | refine blk_drew ?_ | refine blk_alloc ?_ _)); refine blk_put (cs := #[.int .u64 t151, .int .u64 0]) ?_ 1 _ rfl; (with_reducible repeat (first | refine blk_drewN ?_ _ | refine blk_drew ?_ | refine blk_alloc ?_ _)); refine blk_put (cs := #[.int .u64 0, .int .u64 0]) ?_ 0 _ rfl; (with_reducible repeat (first | refine blk_drewN ?_ _ | refine blk_drew ?_ | refine blk_alloc ?_ _)); exact BK155.out) hb); have n2_ := Aside0.mk (below_step (by repeat (first | (with_reducible first | exact HB.out | apply below_alloc | apply pw_below_drewN | apply below_drew1 | refine below_set ?_ GE145.out | refine below_set ?_ GE155.out) | exact HB.out)) hb); clear BK145; clear BK155; clear HB; have BK145 := n0_; have BK155 := n1_; have HB := n2_; clear n0_ n1_ n2_; (try clear hb); (try clear hb2); (try clear hk); (try clear hi)))
       go_meet
       case rel => exact ⟨_, (!t156), (by first | rfl | (simp; done) | (simp [*]; done)), H', ⟨by have := HJ5.out; first | omega | exact Nat.le_refl _⟩, ⟨by (with_reducible repeat (first | refine blk_drewN ?_ _ | refine blk_drew ?_ | refine blk_alloc ?_ _)); exact BK145.out⟩, ⟨by (with_reducible repeat (first | refine blk_drewN ?_ _ | refine blk_drew ?_ | refine blk_alloc ?_ _)); exact BK155.out⟩, ⟨by repeat (first | (with_reducible first | exact HB.out | apply below_alloc | apply pw_below_drewN | apply below_drew1 | refine below_set ?_ GE145.out | refine below_set ?_ GE155.out) | exact HB.out)⟩⟩
      ·
       replace c18 := Bool.eq_false_iff.mpr c18
       subst c18
       have H1 : (value_Parse.j1 kj5 a0 a1 true true t151 t152) = some (r1, r2, r3) := by rw [if_neg (show ¬ (false = true) by decide)] at H; exact H
       clear H
       have H := H1
       clear H1
       have H' := Aside0.mk H
       clear H
       go_wp2
       go_meet
       case rel => exact ⟨_, (true), (by first | rfl | (simp; done) | (simp [*]; done)), H', ⟨by have := HJ5.out; first | omega | exact Nat.le_refl _⟩, ⟨by (with_reducible repeat (first | refine blk_drewN ?_ _ | refine blk_drew ?_ | refine blk_alloc ?_ _)); refine blk_far ?_ NB145_155.out _; (with_reducible repeat (first | refine blk_drewN ?_ _ | refine blk_drew ?_ | refine blk_alloc ?_ _)); refine blk_far ?_ NB145_155.out _; (with_reducible repeat (first | refine blk_drewN ?_ _ | refine blk_drew ?_ | refine blk_alloc ?_ _)); exact BK145.out⟩, ⟨by (with_reducible repeat (first | refine blk_drewN ?_ _ | refine blk_drew ?_ | refine blk_alloc ?_ _)); refine blk_put (cs := #[.int .u64 t151, .int .u64 0]) ?_ 1 _ rfl; (with_reducible repeat (first | refine blk_drewN ?_ _ | refine blk_drew ?_ | refine blk_alloc ?_ _)); refine blk_put (cs := #[.int .u64 0, .int .u64 0]) ?_ 0 _ rfl; (with_reducible repeat (first | refine blk_drewN ?_ _ | refine blk_drew ?_ | refine blk_alloc ?_ _)); exact BK155.out⟩, ⟨by repeat (first | (with_reducible first | exact HB.out | apply below_alloc | apply pw_below_drewN | apply below_drew1 | refine below_set ?_ GE145.out | refine below_set ?_ GE155.out) | exact HB.out)⟩⟩
     ·
      replace c17 := Bool.eq_false_iff.mpr c17
      subst c17
      have H1 : (value_Parse.j1 kj5 a0 a1 false false t151 t152) = some (r1, r2, r3) := by rw [if_neg (show ¬ (false = true) by decide)] at H; exact H
      clear H
      have H := H1
      clear H1
      have H' := Aside0.mk H
      clear H
      go_wp2
      go_meet
      case rel => exact ⟨_, (false), (by first | rfl | (simp; done) | (simp [*]; done)), H', ⟨by have := HJ5.out; first | omega | exact Nat.le_refl _⟩, ⟨by (with_reducible repeat (first | refine blk_drewN ?_ _ | refine blk_drew ?_ | refine blk_alloc ?_ _)); refine blk_far ?_ NB145_155.out _; (with_reducible repeat (first | refine blk_drewN ?_ _ | refine blk_drew ?_ | refine blk_alloc ?_ _)); refine blk_far ?_ NB145_155.out _; (with_reducible repeat (first | refine blk_drewN ?_ _ | refine blk_drew ?_ | refine blk_alloc ?_ _)); exact BK145.out⟩, ⟨by (with_reducible repeat (first | refine blk_drewN ?_ _ | refine blk_drew ?_ | refine blk_alloc ?_ _)); refine blk_put (cs := #[.int .u64 t151, .int .u64 0]) ?_ 1 _ rfl; (with_reducible repeat (first | refine blk_drewN ?_ _ | refine blk_drew ?_ | refine blk_alloc ?_ _)); refine blk_put (cs := #[.int .u64 0, .int .u64 0]) ?_ 0 _ rfl; (with_reducible repeat (first | refine blk_drewN ?_ _ | refine blk_drew ?_ | refine blk_alloc ?_ _)); exact BK155.out⟩, ⟨by repeat (first | (with_reducible first | exact HB.out | apply below_alloc | apply pw_below_drewN | apply below_drew1 | refine below_set ?_ GE145.out | refine below_set ?_ GE155.out) | exact HB.out)⟩⟩
    case rest =>
     clear HC12
     try clear c1
     try clear c2
     try clear p2
     try clear c4
     try clear c8
     try clear c10
     try clear c15
     try clear c17
     try clear c18
     try clear c20
     try clear hcz16_0
     try clear hcz16_1
     try clear hcz21_0
     try clear hcz21_1
     try clear hfz16_0
     try clear hfz16_1
     try clear hfz21_0
     try clear hfz21_1
     try clear p2
     obtain ⟨kq, x55_11, rfl, HA, HJ11, BK145, BK155, HB⟩ := hcut
     cases kq with
     | zero => exact absurd HA.out (by simp [value_Parse.j1])
     | succ kj11 =>
      have H := HA.out
      clear HA
      simp only [value_Parse.j1] at H
      by_cases c23 : x55_11 = true
      ·
       subst c23
       have H1 : (some (0, 0, 11)) = some (r1, r2, r3) := by rw [if_pos rfl] at H; exact H
       clear H
       have H := H1
       clear H1
       simp only [Option.some.injEq, Prod.mk.injEq] at H
       obtain ⟨rfl, rfl, rfl⟩ := H
       have hnb24 := NB145_155.out
       have hnc24 := NB155_145.out
       have hcz25_0 : wc.cell? ⟨gb145, 0, none⟩ = some (.int .u64 0) := (blk_cell BK145.out 0).trans rfl
       have hcz25_1 : wc.cell? ⟨gb145, 1, none⟩ = some (.int .u64 0) := (blk_cell BK145.out 1).trans rfl
       have hfz25_0 := blk_frozen BK145.out 0
       have hfz25_1 := blk_frozen BK145.out 1
       go_wp2
       refine bodyPost_ret (results_ct rfl _ _ gb145 24 #[.int .u64 0, .int .u64 0] (0, 0) _ rfl (by (with_reducible repeat (first | refine blk_drewN ?_ _ | refine blk_drew ?_ | refine blk_alloc ?_ _)); refine blk_put (cs := #[.int .u64 0, .int .u64 0]) ?_ 1 _ rfl; (with_reducible repeat (first | refine blk_drewN ?_ _ | refine blk_drew ?_ | refine blk_alloc ?_ _)); refine blk_put (cs := #[.int .u64 0, .int .u64 0]) ?_ 0 _ rfl; (with_reducible repeat (first | refine blk_drewN ?_ _ | refine blk_drew ?_ | refine blk_alloc ?_ _)); exact BK145.out) Tryd.underlying24 rfl (by kernel_rfl)) rfl ?_
       exact ⟨by first | rfl | (simp [errW_none, errW_some] <;> rfl) | (simp [*, errW_none, errW_some] <;> rfl), by repeat (first | (with_reducible first | exact HB.out | apply below_alloc | apply pw_below_drewN | apply below_drew1 | refine below_set ?_ GE145.out | refine below_set ?_ GE155.out) | exact HB.out)⟩
      ·
       replace c23 := Bool.eq_false_iff.mpr c23
       subst c23
       have H1 : (if t154 = true then (some (t151, t152, 0)) else ((value_has.f a1 4).bind fun t157 => (if t157 = true then ((value_pieces.f a0 (⟨#[46]⟩ : ByteArray) 10 4).bind fun bt158 => (if bt158.2 = true then ((value_From.f kj11 bt158.1 a1).bind fun bt160 => (some (bt160.1, bt160.2.1, bt160.2.2))) else (value_Parse.j2 kj11 a0 a1))) else (value_Parse.j2 kj11 a0 a1)))) = some (r1, r2, r3) := by rw [if_neg (show ¬ (false = true) by decide)] at H; exact H
       clear H
       have H := H1
       clear H1
       by_cases c26 : t154 = true
       ·
        subst c26
        have H1 : (some (t151, t152, 0)) = some (r1, r2, r3) := by rw [if_pos rfl] at H; exact H
        clear H
        have H := H1
        clear H1
        simp only [Option.some.injEq, Prod.mk.injEq] at H
        obtain ⟨rfl, rfl, rfl⟩ := H
        have hnb27 := NB155_145.out
        have hnc27 := NB145_155.out
        have hcz28_0 : wc.cell? ⟨gb155, 0, none⟩ = some (.int .u64 t151) := (blk_cell BK155.out 0).trans rfl
        have hcz28_1 : wc.cell? ⟨gb155, 1, none⟩ = some (.int .u64 t152) := (blk_cell BK155.out 1).trans rfl
        have hfz28_0 := blk_frozen BK155.out 0
        have hfz28_1 := blk_frozen BK155.out 1
        have hcz29_0 : wc.cell? ⟨gb145, 0, none⟩ = some (.int .u64 0) := (blk_cell BK145.out 0).trans rfl
        have hcz29_1 : wc.cell? ⟨gb145, 1, none⟩ = some (.int .u64 0) := (blk_cell BK145.out 1).trans rfl
        have hfz29_0 := blk_frozen BK145.out 0
        have hfz29_1 := blk_frozen BK145.out 1
        go_wp2
        refine bodyPost_ret (results_ct rfl _ _ gb145 24 #[.int .u64 t151, .int .u64 t152] (0, 0) _ rfl (by (with_reducible repeat (first | refine blk_drewN ?_ _ | refine blk_drew ?_ | refine blk_alloc ?_ _)); refine blk_put (cs := #[.int .u64 t151, .int .u64 0]) ?_ 1 _ rfl; (with_reducible repeat (first | refine blk_drewN ?_ _ | refine blk_drew ?_ | refine blk_alloc ?_ _)); refine blk_put (cs := #[.int .u64 0, .int .u64 0]) ?_ 0 _ rfl; (with_reducible repeat (first | refine blk_drewN ?_ _ | refine blk_drew ?_ | refine blk_alloc ?_ _)); exact BK145.out) Tryd.underlying24 rfl (by kernel_rfl)) rfl ?_
        exact ⟨by first | rfl | (simp [errW_none, errW_some] <;> rfl) | (simp [*, errW_none, errW_some] <;> rfl), by repeat (first | (with_reducible first | exact HB.out | apply below_alloc | apply pw_below_drewN | apply below_drew1 | refine below_set ?_ GE145.out | refine below_set ?_ GE155.out) | exact HB.out)⟩
       ·
        replace c26 := Bool.eq_false_iff.mpr c26
        subst c26
        have H1 : ((value_has.f a1 4).bind fun t157 => (if t157 = true then ((value_pieces.f a0 (⟨#[46]⟩ : ByteArray) 10 4).bind fun bt158 => (if bt158.2 = true then ((value_From.f kj11 bt158.1 a1).bind fun bt160 => (some (bt160.1, bt160.2.1, bt160.2.2))) else (value_Parse.j2 kj11 a0 a1))) else (value_Parse.j2 kj11 a0 a1))) = some (r1, r2, r3) := by rw [if_neg (show ¬ (false = true) by decide)] at H; exact H
        clear H
        have H := H1
        clear H1
        replace H := Option.bind_eq_some_iff.mp H
        obtain ⟨t157, A300, H⟩ := H
        replace H : (if t157 = true then ((value_pieces.f a0 (⟨#[46]⟩ : ByteArray) 10 4).bind fun bt158 => (if bt158.2 = true then ((value_From.f kj11 bt158.1 a1).bind fun bt160 => (some (bt160.1, bt160.2.1, bt160.2.2))) else (value_Parse.j2 kj11 a0 a1))) else (value_Parse.j2 kj11 a0 a1)) = some (r1, r2, r3) := H
        have A30 := Aside0.mk A300
        clear A300
        have HC31 := Aside0.mk H
        clear H
        go_upto_if 60 with (first | ((with_reducible refine gate_callee (f := 39) rfl ?_); refine goesL_ (some 60) rfl rfl Tryd.func39 (by kernel_rfl) rfl #[.int .i64 a1, .int .i64 4] rfl (by (try simp only [List.map_toArray, List.map_cons, List.map_nil]); first | done | rfl | (simp only [List.length_drop, List.length_take]; rfl)) ?_; (with_reducible refine (value_has.calls a1 4 t157 _ A30.out).mono ?_); rintro e w' ⟨rfl, ⟨nd, rfl⟩⟩; refine ⟨_, rfl, ?_⟩))
        (try simp only [Act.put, List.setIfInBounds_toArray, List.set_cons_zero, List.set_cons_succ])
        go_cut [] (fun wc => ∃ (kq : Nat) (x146000_30 : Int) (x146001_30 : Int), Aside0 (value_Parse.j2 kq a0 a1 = some (r1, r2, r3)) ∧ Aside0 (kq ≤ kj11) ∧ Aside0 (wc.heap[gb145]? = some (.cells #[.int .u64 x146000_30, .int .u64 x146001_30] 24 (0, 0))) ∧ Aside0 (wc.heap[gb155]? = some (.cells #[.int .u64 t151, .int .u64 t152] 24 (0, 0))) ∧ Aside0 (Below w.heap.size w wc))
        case first =>
         have H := HC31.out
         clear HC31
         by_cases c32 : t157 = true
         ·
          subst c32
          have H1 : ((value_pieces.f a0 (⟨#[46]⟩ : ByteArray) 10 4).bind fun bt158 => (if bt158.2 = true then ((value_From.f kj11 bt158.1 a1).bind fun bt160 => (some (bt160.1, bt160.2.1, bt160.2.2))) else (value_Parse.j2 kj11 a0 a1))) = some (r1, r2, r3) := by rw [if_pos rfl] at H; exact H
          clear H
          have H := H1
          clear H1
          replace H := Option.bind_eq_some_iff.mp H
          obtain ⟨⟨t158, t159⟩, A330, H⟩ := H
          replace H : (if t159 = true then ((value_From.f kj11 t158 a1).bind fun bt160 => (some (bt160.1, bt160.2.1, bt160.2.2))) else (value_Parse.j2 kj11 a0 a1)) = some (r1, r2, r3) := H
          have A33 := Aside0.mk A330
          clear A330
          by_cases c34 : t159 = true
          ·
           subst c34
           have H1 : ((value_From.f kj11 t158 a1).bind fun bt160 => (some (bt160.1, bt160.2.1, bt160.2.2))) = some (r1, r2, r3) := by rw [if_pos rfl] at H; exact H
           clear H
           have H := H1
           clear H1
           replace H := Option.bind_eq_some_iff.mp H
           obtain ⟨⟨t160, t161, t162⟩, A350, H⟩ := H
           replace H : (some (t160, t161, t162)) = some (r1, r2, r3) := H
           have A35 := Aside0.mk A350
           clear A350
           simp only [Option.some.injEq, Prod.mk.injEq] at H
           obtain ⟨rfl, rfl, rfl⟩ := H
           go_wp2_with (first | ((with_reducible refine gate_callee (f := 45) rfl ?_); refine goesL_ (some 63) rfl rfl Tryd.func45 (by kernel_rfl) rfl #[.string a0, .string (⟨#[46]⟩ : ByteArray), .int .u64 10, .int .i64 4] rfl (by (try simp only [List.map_toArray, List.map_cons, List.map_nil]); first | done | rfl | (simp only [List.length_drop, List.length_take]; rfl)) ?_; (with_reducible refine (value_pieces.calls a0 (⟨#[46]⟩ : ByteArray) 10 4 t158 true _ A33.out).mono ?_); rintro e w36 ⟨rfl, hb⟩; refine ⟨_, rfl, ?_⟩; have n0_ := Aside0.mk (blk_below (g := gb145) (o := .cells #[.int .u64 0, .int .u64 0] 24 (0, 0)) (by (with_reducible repeat (first | refine blk_drewN ?_ _ | refine blk_drew ?_ | refine blk_alloc ?_ _)); exact BK145.out) hb); have n1_ := Aside0.mk (blk_below (g := gb155) (o := .cells #[.int .u64 t151, .int .u64 t152] 24 (0, 0)) (by (with_reducible repeat (first | refine blk_drewN ?_ _ | refine blk_drew ?_ | refine blk_alloc ?_ _)); exact BK155.out) hb); have n2_ := Aside0.mk (below_step (by repeat (first | (with_reducible first | exact HB.out | apply below_alloc | apply pw_below_drewN | apply below_drew1 | refine below_set ?_ GE145.out | refine below_set ?_ GE155.out) | exact HB.out)) hb); clear BK145; clear BK155; clear HB; have BK145 := n0_; have BK155 := n1_; have HB := n2_; clear n0_ n1_ n2_; (try clear hb); (try clear hb2); (try clear hk); (try clear hi)) | ((with_reducible refine gate_callee (f := 15) rfl ?_); refine goesL_ (some 69) rfl rfl Tryd.func15 (by kernel_rfl) rfl #[.string t158, .int .i64 a1] rfl (by (try simp only [List.map_toArray, List.map_cons, List.map_nil]); first | done | rfl | (simp only [List.length_drop, List.length_take]; rfl)) ?_; (with_reducible refine (value_From.calls kj11 t158 a1 t160 t161 t162 _ A35.out).mono ?_); rintro e w37 ⟨rfl, hb⟩; refine ⟨_, rfl, ?_⟩; have n0_ := Aside0.mk (blk_below (g := gb145) (o := .cells #[.int .u64 0, .int .u64 0] 24 (0, 0)) (by (with_reducible repeat (first | refine blk_drewN ?_ _ | refine blk_drew ?_ | refine blk_alloc ?_ _)); exact BK145.out) hb); have n1_ := Aside0.mk (blk_below (g := gb155) (o := .cells #[.int .u64 t151, .int .u64 t152] 24 (0, 0)) (by (with_reducible repeat (first | refine blk_drewN ?_ _ | refine blk_drew ?_ | refine blk_alloc ?_ _)); exact BK155.out) hb); have n2_ := Aside0.mk (below_step (by repeat (first | (with_reducible first | exact HB.out | apply below_alloc | apply pw_below_drewN | apply below_drew1 | refine below_set ?_ GE145.out | refine below_set ?_ GE155.out) | exact HB.out)) hb); clear BK145; clear BK155; clear HB; have BK145 := n0_; have BK155 := n1_; have HB := n2_; clear n0_ n1_ n2_; (try clear hb); (try clear hb2); (try clear hk); (try clear hi); have hnb38 := NB145_155.out; have hnc38 := NB155_145.out; have hcz39_0 : w37.cell? ⟨gb145, 0, none⟩ = some (.int .u64 0) := (blk_cell BK145.out 0).trans rfl; have hcz39_1 : w37.cell? ⟨gb145, 1, none⟩ = some (.int .u64 0) := (blk_cell BK145.out 1).trans rfl; have hfz39_0 := blk_frozen BK145.out 0; have hfz39_1 := blk_frozen BK145.out 1))
           refine bodyPost_ret (results_ct rfl _ _ gb145 24 #[.int .u64 t160, .int .u64 t161] (0, 0) _ rfl (by (with_reducible repeat (first | refine blk_drewN ?_ _ | refine blk_drew ?_ | refine blk_alloc ?_ _)); refine blk_put (cs := #[.int .u64 t160, .int .u64 0]) ?_ 1 _ rfl; (with_reducible repeat (first | refine blk_drewN ?_ _ | refine blk_drew ?_ | refine blk_alloc ?_ _)); refine blk_put (cs := #[.int .u64 0, .int .u64 0]) ?_ 0 _ rfl; (with_reducible repeat (first | refine blk_drewN ?_ _ | refine blk_drew ?_ | refine blk_alloc ?_ _)); exact BK145.out) Tryd.underlying24 rfl (by kernel_rfl)) rfl ?_
           exact ⟨by first | rfl | (simp [errW_none, errW_some] <;> rfl) | (simp [*, errW_none, errW_some] <;> rfl), by repeat (first | (with_reducible first | exact HB.out | apply below_alloc | apply pw_below_drewN | apply below_drew1 | refine below_set ?_ GE145.out | refine below_set ?_ GE155.out) | exact HB.out)⟩
          ·
           replace c34 := Bool.eq_false_iff.mpr c34
           subst c34
           have H1 : (value_Parse.j2 kj11 a0 a1) = some (r1, r2, r3) := by rw [if_neg (show ¬ (false = true) by decide)] at H; exact H
           clear H
           have H := H1
           clear H1
           have H' := Aside0.mk H
           clear H
           go_wp2_with (first | ((with_reducible refine gate_callee (f := 45) rfl ?_); refine goesL_ (some 63) rfl rfl Tryd.func45 (by kernel_rfl) rfl #[.string a0, .string (⟨#[46]⟩ : ByteArray), .int .u64 10, .int .i64 4] rfl (by (try simp only [List.map_toArray, List.map_cons, List.map_nil]); first | done | rfl | (simp only [List.length_drop, List.length_take]; rfl)) ?_; (with_reducible refine (value_pieces.calls a0 (⟨#[46]⟩ : ByteArray) 10 4 t158 false _ A33.out).mono ?_); rintro e w40 ⟨rfl, hb⟩; refine ⟨_, rfl, ?_⟩; have n0_ := Aside0.mk (blk_below (g := gb145) (o := .cells #[.int .u64 0, .int .u64 0] 24 (0, 0)) (by (with_reducible repeat (first | refine blk_drewN ?_ _ | refine blk_drew ?_ | refine blk_alloc ?_ _)); exact BK145.out) hb); have n1_ := Aside0.mk (blk_below (g := gb155) (o := .cells #[.int .u64 t151, .int .u64 t152] 24 (0, 0)) (by (with_reducible repeat (first | refine blk_drewN ?_ _ | refine blk_drew ?_ | refine blk_alloc ?_ _)); exact BK155.out) hb); have n2_ := Aside0.mk (below_step (by repeat (first | (with_reducible first | exact HB.out | apply below_alloc | apply pw_below_drewN | apply below_drew1 | refine below_set ?_ GE145.out | refine below_set ?_ GE155.out) | exact HB.out)) hb); clear BK145; clear BK155; clear HB; have BK145 := n0_; have BK155 := n1_; have HB := n2_; clear n0_ n1_ n2_; (try clear hb); (try clear hb2); (try clear hk); (try clear hi)))
           go_meet
           case rel => exact ⟨_, (0), (0), H', ⟨by have := HJ5.out; have := HJ11.out; first | omega | exact Nat.le_refl _⟩, ⟨by (with_reducible repeat (first | refine blk_drewN ?_ _ | refine blk_drew ?_ | refine blk_alloc ?_ _)); exact BK145.out⟩, ⟨by (with_reducible repeat (first | refine blk_drewN ?_ _ | refine blk_drew ?_ | refine blk_alloc ?_ _)); exact BK155.out⟩, ⟨by repeat (first | (with_reducible first | exact HB.out | apply below_alloc | apply pw_below_drewN | apply below_drew1 | refine below_set ?_ GE145.out | refine below_set ?_ GE155.out) | exact HB.out)⟩⟩
         ·
          replace c32 := Bool.eq_false_iff.mpr c32
          subst c32
          have H1 : (value_Parse.j2 kj11 a0 a1) = some (r1, r2, r3) := by rw [if_neg (show ¬ (false = true) by decide)] at H; exact H
          clear H
          have H := H1
          clear H1
          have H' := Aside0.mk H
          clear H
          go_wp2
          go_meet
          case rel => exact ⟨_, (0), (0), H', ⟨by have := HJ5.out; have := HJ11.out; first | omega | exact Nat.le_refl _⟩, ⟨by (with_reducible repeat (first | refine blk_drewN ?_ _ | refine blk_drew ?_ | refine blk_alloc ?_ _)); exact BK145.out⟩, ⟨by (with_reducible repeat (first | refine blk_drewN ?_ _ | refine blk_drew ?_ | refine blk_alloc ?_ _)); exact BK155.out⟩, ⟨by repeat (first | (with_reducible first | exact HB.out | apply below_alloc | apply pw_below_drewN | apply below_drew1 | refine below_set ?_ GE145.out | refine below_set ?_ GE155.out) | exact HB.out)⟩⟩
        case rest =>
         clear HC31
         try clear c1
         try clear c2
         try clear p2
         try clear c3
         try clear c4
         try clear c8
         try clear c10
         try clear c15
         try clear c17
         try clear c18
         try clear c20
         try clear c23
         try clear c24
         try clear c26
         try clear c27
         try clear c32
         try clear c34
         try clear c38
         try clear c39
         try clear hcz16_0
         try clear hcz16_1
         try clear hcz21_0
         try clear hcz21_1
         try clear hcz25_0
         try clear hcz25_1
         try clear hcz28_0
         try clear hcz28_1
         try clear hcz29_0
         try clear hcz29_1
         try clear hcz39_0
         try clear hcz39_1
         try clear hfz16_0
         try clear hfz16_1
         try clear hfz21_0
         try clear hfz21_1
         try clear hfz25_0
         try clear hfz25_1
         try clear hfz28_0
         try clear hfz28_1
         try clear hfz29_0
         try clear hfz29_1
         try clear hfz39_0
         try clear hfz39_1
         try clear p2
         obtain ⟨kq, x146000_30, x146001_30, HA, HJ30, BK145, BK155, HB⟩ := hcut
         cases kq with
         | zero => exact absurd HA.out (by simp [value_Parse.j2])
         | succ kj30 =>
          have H := HA.out
          clear HA
          simp only [value_Parse.j2] at H
          replace H := Option.bind_eq_some_iff.mp H
          obtain ⟨t163, A410, H⟩ := H
          replace H : (if t163 = true then ((value_pieces.f a0 (⟨#[58]⟩ : ByteArray) 16 (wrap64 (Int.tdiv a1 8))).bind fun bt164 => (if bt164.2 = true then ((value_From.f kj30 bt164.1 a1).bind fun bt166 => (some (bt166.1, bt166.2.1, bt166.2.2))) else (some (0, 0, 12)))) else (some (0, 0, 12))) = some (r1, r2, r3) := H
          have A41 := Aside0.mk A410
          clear A410
          by_cases c42 : t163 = true
          ·
           subst c42
           have H1 : ((value_pieces.f a0 (⟨#[58]⟩ : ByteArray) 16 (wrap64 (Int.tdiv a1 8))).bind fun bt164 => (if bt164.2 = true then ((value_From.f kj30 bt164.1 a1).bind fun bt166 => (some (bt166.1, bt166.2.1, bt166.2.2))) else (some (0, 0, 12)))) = some (r1, r2, r3) := by rw [if_pos rfl] at H; exact H
           clear H
           have H := H1
           clear H1
           replace H := Option.bind_eq_some_iff.mp H
           obtain ⟨⟨t164, t165⟩, A430, H⟩ := H
           replace H : (if t165 = true then ((value_From.f kj30 t164 a1).bind fun bt166 => (some (bt166.1, bt166.2.1, bt166.2.2))) else (some (0, 0, 12))) = some (r1, r2, r3) := H
           have A43 := Aside0.mk A430
           clear A430
           by_cases c44 : t165 = true
           ·
            subst c44
            have H1 : ((value_From.f kj30 t164 a1).bind fun bt166 => (some (bt166.1, bt166.2.1, bt166.2.2))) = some (r1, r2, r3) := by rw [if_pos rfl] at H; exact H
            clear H
            have H := H1
            clear H1
            replace H := Option.bind_eq_some_iff.mp H
            obtain ⟨⟨t166, t167, t168⟩, A450, H⟩ := H
            replace H : (some (t166, t167, t168)) = some (r1, r2, r3) := H
            have A45 := Aside0.mk A450
            clear A450
            simp only [Option.some.injEq, Prod.mk.injEq] at H
            obtain ⟨rfl, rfl, rfl⟩ := H
            go_wp2_with (first | ((with_reducible refine gate_callee (f := 39) rfl ?_); refine goesL_ (some 73) rfl rfl Tryd.func39 (by kernel_rfl) rfl #[.int .i64 a1, .int .i64 5] rfl (by (try simp only [List.map_toArray, List.map_cons, List.map_nil]); first | done | rfl | (simp only [List.length_drop, List.length_take]; rfl)) ?_; (with_reducible refine (value_has.calls a1 5 true _ A41.out).mono ?_); rintro e w' ⟨rfl, ⟨nd, rfl⟩⟩; refine ⟨_, rfl, ?_⟩; (try (rw [drewN_self wc]; generalize hq_ : World.drewN wc _ = wc; have n0_ : Aside0 (wc.heap[gb145]? = some (.cells #[.int .u64 x146000_30, .int .u64 x146001_30] 24 (0, 0))) := ⟨by rw [← hq_]; exact (by (with_reducible repeat (first | refine blk_drewN ?_ _ | refine blk_drew ?_ | refine blk_alloc ?_ _)); exact BK145.out)⟩; have n1_ : Aside0 (wc.heap[gb155]? = some (.cells #[.int .u64 t151, .int .u64 t152] 24 (0, 0))) := ⟨by rw [← hq_]; exact (by (with_reducible repeat (first | refine blk_drewN ?_ _ | refine blk_drew ?_ | refine blk_alloc ?_ _)); exact BK155.out)⟩; have n2_ : Aside0 (Below w.heap.size w wc) := ⟨by rw [← hq_]; exact (by repeat (first | (with_reducible first | exact HB.out | apply below_alloc | apply pw_below_drewN | apply below_drew1 | refine below_set ?_ GE145.out | refine below_set ?_ GE155.out) | exact HB.out))⟩; clear BK145 BK155 HB hq_; have BK145 := n0_; have BK155 := n1_; have HB := n2_; clear n0_ n1_ n2_))) | ((with_reducible refine gate_callee (f := 45) rfl ?_); refine goesL_ (some 78) rfl rfl Tryd.func45 (by kernel_rfl) rfl #[.string a0, .string (⟨#[58]⟩ : ByteArray), .int .u64 16, .int .i64 (wrap64 (Int.tdiv a1 8))] rfl (by (try simp only [List.map_toArray, List.map_cons, List.map_nil]); first | done | rfl | (simp only [List.length_drop, List.length_take]; rfl)) ?_; (with_reducible refine (value_pieces.calls a0 (⟨#[58]⟩ : ByteArray) 16 (wrap64 (Int.tdiv a1 8)) t164 true _ A43.out).mono ?_); rintro e w46 ⟨rfl, hb⟩; refine ⟨_, rfl, ?_⟩; have n0_ := Aside0.mk (blk_below (g := gb145) (o := .cells #[.int .u64 x146000_30, .int .u64 x146001_30] 24 (0, 0)) (by (with_reducible repeat (first | refine blk_drewN ?_ _ | refine blk_drew ?_ | refine blk_alloc ?_ _)); exact BK145.out) hb); have n1_ := Aside0.mk (blk_below (g := gb155) (o := .cells #[.int .u64 t151, .int .u64 t152] 24 (0, 0)) (by (with_reducible repeat (first | refine blk_drewN ?_ _ | refine blk_drew ?_ | refine blk_alloc ?_ _)); exact BK155.out) hb); have n2_ := Aside0.mk (below_step (by repeat (first | (with_reducible first | exact HB.out | apply below_alloc | apply pw_below_drewN | apply below_drew1 | refine below_set ?_ GE145.out | refine below_set ?_ GE155.out) | exact HB.out)) hb); clear BK145; clear BK155; clear HB; have BK145 := n0_; have BK155 := n1_; have HB := n2_; clear n0_ n1_ n2_; (try clear hb); (try clear hb2); (try clear hk); (try clear hi)) | ((with_reducible refine gate_callee (f := 15) rfl ?_); refine goesL_ (some 84) rfl rfl Tryd.func15 (by kernel_rfl) rfl #[.string t164, .int .i64 a1] rfl (by (try simp only [List.map_toArray, List.map_cons, List.map_nil]); first | done | rfl | (simp only [List.length_drop, List.length_take]; rfl)) ?_; (with_reducible refine (value_From.calls kj30 t164 a1 t166 t167 t168 _ A45.out).mono ?_); rintro e w47 ⟨rfl, hb⟩; refine ⟨_, rfl, ?_⟩; have n0_ := Aside0.mk (blk_below (g := gb145) (o := .cells #[.int .u64 x146000_30, .int .u64 x146001_30] 24 (0, 0)) (by (with_reducible repeat (first | refine blk_drewN ?_ _ | refine blk_drew ?_ | refine blk_alloc ?_ _)); exact BK145.out) hb); have n1_ := Aside0.mk (blk_below (g := gb155) (o := .cells #[.int .u64 t151, .int .u64 t152] 24 (0, 0)) (by (with_reducible repeat (first | refine blk_drewN ?_ _ | refine blk_drew ?_ | refine blk_alloc ?_ _)); exact BK155.out) hb); have n2_ := Aside0.mk (below_step (by repeat (first | (with_reducible first | exact HB.out | apply below_alloc | apply pw_below_drewN | apply below_drew1 | refine below_set ?_ GE145.out | refine below_set ?_ GE155.out) | exact HB.out)) hb); clear BK145; clear BK155; clear HB; have BK145 := n0_; have BK155 := n1_; have HB := n2_; clear n0_ n1_ n2_; (try clear hb); (try clear hb2); (try clear hk); (try clear hi); have hnb48 := NB145_155.out; have hnc48 := NB155_145.out; have hcz49_0 : w47.cell? ⟨gb145, 0, none⟩ = some (.int .u64 x146000_30) := (blk_cell BK145.out 0).trans rfl; have hcz49_1 : w47.cell? ⟨gb145, 1, none⟩ = some (.int .u64 x146001_30) := (blk_cell BK145.out 1).trans rfl; have hfz49_0 := blk_frozen BK145.out 0; have hfz49_1 := blk_frozen BK145.out 1))
            refine bodyPost_ret (results_ct rfl _ _ gb145 24 #[.int .u64 t166, .int .u64 t167] (0, 0) _ rfl (by (with_reducible repeat (first | refine blk_drewN ?_ _ | refine blk_drew ?_ | refine blk_alloc ?_ _)); refine blk_put (cs := #[.int .u64 t166, .int .u64 x146001_30]) ?_ 1 _ rfl; (with_reducible repeat (first | refine blk_drewN ?_ _ | refine blk_drew ?_ | refine blk_alloc ?_ _)); refine blk_put (cs := #[.int .u64 x146000_30, .int .u64 x146001_30]) ?_ 0 _ rfl; (with_reducible repeat (first | refine blk_drewN ?_ _ | refine blk_drew ?_ | refine blk_alloc ?_ _)); exact BK145.out) Tryd.underlying24 rfl (by kernel_rfl)) rfl ?_
            exact ⟨by first | rfl | (simp [errW_none, errW_some] <;> rfl) | (simp [*, errW_none, errW_some] <;> rfl), by repeat (first | (with_reducible first | exact HB.out | apply below_alloc | apply pw_below_drewN | apply below_drew1 | refine below_set ?_ GE145.out | refine below_set ?_ GE155.out) | exact HB.out)⟩
           ·
            replace c44 := Bool.eq_false_iff.mpr c44
            subst c44
            have H1 : (some (0, 0, 12)) = some (r1, r2, r3) := by rw [if_neg (show ¬ (false = true) by decide)] at H; exact H
            clear H
            have H := H1
            clear H1
            simp only [Option.some.injEq, Prod.mk.injEq] at H
            obtain ⟨rfl, rfl, rfl⟩ := H
            go_wp2_with (first | ((with_reducible refine gate_callee (f := 39) rfl ?_); refine goesL_ (some 73) rfl rfl Tryd.func39 (by kernel_rfl) rfl #[.int .i64 a1, .int .i64 5] rfl (by (try simp only [List.map_toArray, List.map_cons, List.map_nil]); first | done | rfl | (simp only [List.length_drop, List.length_take]; rfl)) ?_; (with_reducible refine (value_has.calls a1 5 true _ A41.out).mono ?_); rintro e w' ⟨rfl, ⟨nd, rfl⟩⟩; refine ⟨_, rfl, ?_⟩; (try (rw [drewN_self wc]; generalize hq_ : World.drewN wc _ = wc; have n0_ : Aside0 (wc.heap[gb145]? = some (.cells #[.int .u64 x146000_30, .int .u64 x146001_30] 24 (0, 0))) := ⟨by rw [← hq_]; exact (by (with_reducible repeat (first | refine blk_drewN ?_ _ | refine blk_drew ?_ | refine blk_alloc ?_ _)); exact BK145.out)⟩; have n1_ : Aside0 (wc.heap[gb155]? = some (.cells #[.int .u64 t151, .int .u64 t152] 24 (0, 0))) := ⟨by rw [← hq_]; exact (by (with_reducible repeat (first | refine blk_drewN ?_ _ | refine blk_drew ?_ | refine blk_alloc ?_ _)); exact BK155.out)⟩; have n2_ : Aside0 (Below w.heap.size w wc) := ⟨by rw [← hq_]; exact (by repeat (first | (with_reducible first | exact HB.out | apply below_alloc | apply pw_below_drewN | apply below_drew1 | refine below_set ?_ GE145.out | refine below_set ?_ GE155.out) | exact HB.out))⟩; clear BK145 BK155 HB hq_; have BK145 := n0_; have BK155 := n1_; have HB := n2_; clear n0_ n1_ n2_))) | ((with_reducible refine gate_callee (f := 45) rfl ?_); refine goesL_ (some 78) rfl rfl Tryd.func45 (by kernel_rfl) rfl #[.string a0, .string (⟨#[58]⟩ : ByteArray), .int .u64 16, .int .i64 (wrap64 (Int.tdiv a1 8))] rfl (by (try simp only [List.map_toArray, List.map_cons, List.map_nil]); first | done | rfl | (simp only [List.length_drop, List.length_take]; rfl)) ?_; (with_reducible refine (value_pieces.calls a0 (⟨#[58]⟩ : ByteArray) 16 (wrap64 (Int.tdiv a1 8)) t164 false _ A43.out).mono ?_); rintro e w50 ⟨rfl, hb⟩; refine ⟨_, rfl, ?_⟩; have n0_ := Aside0.mk (blk_below (g := gb145) (o := .cells #[.int .u64 x146000_30, .int .u64 x146001_30] 24 (0, 0)) (by (with_reducible repeat (first | refine blk_drewN ?_ _ | refine blk_drew ?_ | refine blk_alloc ?_ _)); exact BK145.out) hb); have n1_ := Aside0.mk (blk_below (g := gb155) (o := .cells #[.int .u64 t151, .int .u64 t152] 24 (0, 0)) (by (with_reducible repeat (first | refine blk_drewN ?_ _ | refine blk_drew ?_ | refine blk_alloc ?_ _)); exact BK155.out) hb); have n2_ := Aside0.mk (below_step (by repeat (first | (with_reducible first | exact HB.out | apply below_alloc | apply pw_below_drewN | apply below_drew1 | refine below_set ?_ GE145.out | refine below_set ?_ GE155.out) | exact HB.out)) hb); clear BK145; clear BK155; clear HB; have BK145 := n0_; have BK155 := n1_; have HB := n2_; clear n0_ n1_ n2_; (try clear hb); (try clear hb2); (try clear hk); (try clear hi); have hnb51 := NB145_155.out; have hnc51 := NB155_145.out; have hcz52_0 : w50.cell? ⟨gb145, 0, none⟩ = some (.int .u64 x146000_30) := (blk_cell BK145.out 0).trans rfl; have hcz52_1 : w50.cell? ⟨gb145, 1, none⟩ = some (.int .u64 x146001_30) := (blk_cell BK145.out 1).trans rfl; have hfz52_0 := blk_frozen BK145.out 0; have hfz52_1 := blk_frozen BK145.out 1))
            refine bodyPost_ret (results_ct rfl _ _ gb145 24 #[.int .u64 0, .int .u64 0] (0, 0) _ rfl (by (with_reducible repeat (first | refine blk_drewN ?_ _ | refine blk_drew ?_ | refine blk_alloc ?_ _)); refine blk_put (cs := #[.int .u64 0, .int .u64 x146001_30]) ?_ 1 _ rfl; (with_reducible repeat (first | refine blk_drewN ?_ _ | refine blk_drew ?_ | refine blk_alloc ?_ _)); refine blk_put (cs := #[.int .u64 x146000_30, .int .u64 x146001_30]) ?_ 0 _ rfl; (with_reducible repeat (first | refine blk_drewN ?_ _ | refine blk_drew ?_ | refine blk_alloc ?_ _)); exact BK145.out) Tryd.underlying24 rfl (by kernel_rfl)) rfl ?_
            exact ⟨by first | rfl | (simp [errW_none, errW_some] <;> rfl) | (simp [*, errW_none, errW_some] <;> rfl), by repeat (first | (with_reducible first | exact HB.out | apply below_alloc | apply pw_below_drewN | apply below_drew1 | refine below_set ?_ GE145.out | refine below_set ?_ GE155.out) | exact HB.out)⟩
          ·
           replace c42 := Bool.eq_false_iff.mpr c42
           subst c42
           have H1 : (some (0, 0, 12)) = some (r1, r2, r3) := by rw [if_neg (show ¬ (false = true) by decide)] at H; exact H
           clear H
           have H := H1
           clear H1
           simp only [Option.some.injEq, Prod.mk.injEq] at H
           obtain ⟨rfl, rfl, rfl⟩ := H
           go_wp2_with (first | ((with_reducible refine gate_callee (f := 39) rfl ?_); refine goesL_ (some 73) rfl rfl Tryd.func39 (by kernel_rfl) rfl #[.int .i64 a1, .int .i64 5] rfl (by (try simp only [List.map_toArray, List.map_cons, List.map_nil]); first | done | rfl | (simp only [List.length_drop, List.length_take]; rfl)) ?_; (with_reducible refine (value_has.calls a1 5 false _ A41.out).mono ?_); rintro e w' ⟨rfl, ⟨nd, rfl⟩⟩; refine ⟨_, rfl, ?_⟩; (try (rw [drewN_self wc]; generalize hq_ : World.drewN wc _ = wc; have n0_ : Aside0 (wc.heap[gb145]? = some (.cells #[.int .u64 x146000_30, .int .u64 x146001_30] 24 (0, 0))) := ⟨by rw [← hq_]; exact (by (with_reducible repeat (first | refine blk_drewN ?_ _ | refine blk_drew ?_ | refine blk_alloc ?_ _)); exact BK145.out)⟩; have n1_ : Aside0 (wc.heap[gb155]? = some (.cells #[.int .u64 t151, .int .u64 t152] 24 (0, 0))) := ⟨by rw [← hq_]; exact (by (with_reducible repeat (first | refine blk_drewN ?_ _ | refine blk_drew ?_ | refine blk_alloc ?_ _)); exact BK155.out)⟩; have n2_ : Aside0 (Below w.heap.size w wc) := ⟨by rw [← hq_]; exact (by repeat (first | (with_reducible first | exact HB.out | apply below_alloc | apply pw_below_drewN | apply below_drew1 | refine below_set ?_ GE145.out | refine below_set ?_ GE155.out) | exact HB.out))⟩; clear BK145 BK155 HB hq_; have BK145 := n0_; have BK155 := n1_; have HB := n2_; clear n0_ n1_ n2_)); have hnb53 := NB145_155.out; have hnc53 := NB155_145.out; have hcz54_0 : wc.cell? ⟨gb145, 0, none⟩ = some (.int .u64 x146000_30) := (blk_cell BK145.out 0).trans rfl; have hcz54_1 : wc.cell? ⟨gb145, 1, none⟩ = some (.int .u64 x146001_30) := (blk_cell BK145.out 1).trans rfl; have hfz54_0 := blk_frozen BK145.out 0; have hfz54_1 := blk_frozen BK145.out 1))
           refine bodyPost_ret (results_ct rfl _ _ gb145 24 #[.int .u64 0, .int .u64 0] (0, 0) _ rfl (by (with_reducible repeat (first | refine blk_drewN ?_ _ | refine blk_drew ?_ | refine blk_alloc ?_ _)); refine blk_put (cs := #[.int .u64 0, .int .u64 x146001_30]) ?_ 1 _ rfl; (with_reducible repeat (first | refine blk_drewN ?_ _ | refine blk_drew ?_ | refine blk_alloc ?_ _)); refine blk_put (cs := #[.int .u64 x146000_30, .int .u64 x146001_30]) ?_ 0 _ rfl; (with_reducible repeat (first | refine blk_drewN ?_ _ | refine blk_drew ?_ | refine blk_alloc ?_ _)); exact BK145.out) Tryd.underlying24 rfl (by kernel_rfl)) rfl ?_
           exact ⟨by first | rfl | (simp [errW_none, errW_some] <;> rfl) | (simp [*, errW_none, errW_some] <;> rfl), by repeat (first | (with_reducible first | exact HB.out | apply below_alloc | apply pw_below_drewN | apply below_drew1 | refine below_set ?_ GE145.out | refine below_set ?_ GE155.out) | exact HB.out)⟩
 ·
  replace c4 := Bool.eq_false_iff.mpr c4
  subst c4
  have H1 : (some (0, 0, 10)) = some (r1, r2, r3) := by rw [if_neg (show ¬ (false = true) by decide)] at H; exact H
  clear H
  have H := H1
  clear H1
  simp only [Option.some.injEq, Prod.mk.injEq] at H
  obtain ⟨rfl, rfl, rfl⟩ := H
  go_enter Tryd.func10, Tryd.ntmps10
  go_wp2_with (first | ((with_reducible refine gate_dst (N := 4) rfl ?_); refine box_event ?hg (N := 4) ?hd (cs := #[.int .u64 0, .int .u64 0]) (t := 24) ?hr ?_; (case hd => rfl); (case hg => rfl); (case hr => first | (go_simp; done) | (go_simp; rfl)); intro gb145 hg w55 hbox hb; have n0_ := Aside0.mk (below_step (by repeat (first | (with_reducible first | exact HB.out | apply below_alloc | apply pw_below_drewN | apply below_drew1) | exact HB.out)) hb); have n1_ := Aside0.mk (hbox); have n2_ := Aside0.mk ((by rw [hg]; exact (below_size (by repeat (first | (with_reducible first | exact HB.out | apply below_alloc | apply pw_below_drewN | apply below_drew1) | exact HB.out))) : w.heap.size ≤ gb145)); have n3_ := Aside0.mk ((by rw [hg]; exact (below_size (by repeat (first | (with_reducible first | exact HB.out | apply below_alloc | apply pw_below_drewN | apply below_drew1) | exact HB.out))) : w.heap.size ≤ gb145)); clear HB; have HB := n0_; have BK145 := n1_; have GW145 := n2_; have GE145 := n3_; clear n0_ n1_ n2_ n3_; clear hb hbox hg) | ((with_reducible refine gate_callee (f := 42) rfl ?_); refine goesL_ (some 20) rfl rfl Tryd.func42 (by kernel_rfl) rfl #[.int .i64 a1] rfl (by (try simp only [List.map_toArray, List.map_cons, List.map_nil]); first | done | rfl | (simp only [List.length_drop, List.length_take]; rfl)) ?_; (with_reducible refine (value_isWidth.calls a1 false _ A3.out).mono ?_); rintro e w' ⟨rfl, ⟨nd, rfl⟩⟩; refine ⟨_, rfl, ?_⟩; (try (rw [drewN_self w55]; generalize hq_ : World.drewN w55 _ = w55; have n0_ : Aside0 (w55.heap[gb145]? = some (.cells #[.int .u64 0, .int .u64 0] 24 (0, 0))) := ⟨by rw [← hq_]; exact (by (with_reducible repeat (first | refine blk_drewN ?_ _ | refine blk_drew ?_ | refine blk_alloc ?_ _)); exact BK145.out)⟩; have n1_ : Aside0 (Below w.heap.size w w55) := ⟨by rw [← hq_]; exact (by repeat (first | (with_reducible first | exact HB.out | apply below_alloc | apply pw_below_drewN | apply below_drew1 | refine below_set ?_ GE145.out) | exact HB.out))⟩; clear BK145 HB hq_; have BK145 := n0_; have HB := n1_; clear n0_ n1_)); have hcz56_0 : w55.cell? ⟨gb145, 0, none⟩ = some (.int .u64 0) := (blk_cell BK145.out 0).trans rfl; have hcz56_1 : w55.cell? ⟨gb145, 1, none⟩ = some (.int .u64 0) := (blk_cell BK145.out 1).trans rfl; have hfz56_0 := blk_frozen BK145.out 0; have hfz56_1 := blk_frozen BK145.out 1))
  refine bodyPost_ret (results_ct rfl _ _ gb145 24 #[.int .u64 0, .int .u64 0] (0, 0) _ rfl (by (with_reducible repeat (first | refine blk_drewN ?_ _ | refine blk_drew ?_ | refine blk_alloc ?_ _)); refine blk_put (cs := #[.int .u64 0, .int .u64 0]) ?_ 1 _ rfl; (with_reducible repeat (first | refine blk_drewN ?_ _ | refine blk_drew ?_ | refine blk_alloc ?_ _)); refine blk_put (cs := #[.int .u64 0, .int .u64 0]) ?_ 0 _ rfl; (with_reducible repeat (first | refine blk_drewN ?_ _ | refine blk_drew ?_ | refine blk_alloc ?_ _)); exact BK145.out) Tryd.underlying24 rfl (by kernel_rfl)) rfl ?_
  exact ⟨by first | rfl | (simp [errW_none, errW_some] <;> rfl) | (simp [*, errW_none, errW_some] <;> rfl), by repeat (first | (with_reducible first | exact HB.out | apply below_alloc | apply pw_below_drewN | apply below_drew1 | refine below_set ?_ GE145.out) | exact HB.out)⟩
end Go.Proofs.YtofnhgpiipmegaaDoor.PV
