/- ### turnoutref01_Text: function 11 -/
import Derived.Test.YtofnhgpiipmegaaDoorPVx0
import Derived.Test.YtofnhgpiipmegaaDoorPVx5
import Derived.Test.YtofnhgpiipmegaaDoorPVx7
import Derived.Test.YtofnhgpiipmegaaDoorHRefAll
-- Printed by this session's gprint.py (the kit's printer, with functions given by hand). Not trusted: Lean checks it.
namespace Go.Proofs.YtofnhgpiipmegaaDoor.PV
open Go.RowKit Go.Proofs.YtofnhgpiipmegaaDoorW.PrintWords Go.Proofs.YtofnhgpiipmegaaDoorW.PrintLast Go.Proofs.YtofnhgpiipmegaaDoorW.PrintMore
attribute [local go_sem] max2_int min2_int max_two min_two max_three min_three max_four min_four   -- for this text's walks alone
set_option linter.unusedVariables false
set_option linter.unusedSimpArgs false
mutual
def turnoutref01_Text.j0 : Nat → Int → Int → Bool → Int → Int → Option (ByteArray × Int)
 | 0, _, _, _, _, _ => none
 | k + 1, x1, x2, x18, x235000, x235001 => if x18 = true then (some ((⟨#[]⟩ : ByteArray), 1)) else ((turnoutref01_Has.f k x1 x2).bind fun t235 => (if t235 = true then ((turnoutref01_Fits.f x235000 x235001 x1).bind fun t236 => (if t236 = true then (if x2 = 1 then ((turnoutref01_digits.f k x235000 x235001 10).bind fun t237 => (some (t237, 0))) else (if x2 = 2 then ((turnoutref01_digits.f k x235000 x235001 16).bind fun t238 => (if 2 + t238.size ≤ 9223372036854775807 then (some ((⟨#[48, 120]⟩ : ByteArray) ++ t238, 0)) else (none))) else (if x2 = 3 then ((turnoutref01_digits.f k x235000 x235001 2).bind fun t239 => (if 2 + t239.size ≤ 9223372036854775807 then (some ((⟨#[48, 98]⟩ : ByteArray) ++ t239, 0)) else (none))) else ((turnoutref01_Bytes.f k x235000 x235001 x1).bind fun bt240 => (turnoutref01_Text.l0 k x2 bt240.1 (⟨#[]⟩ : ByteArray) 0))))) else (some ((⟨#[]⟩ : ByteArray), 11)))) else (some ((⟨#[]⟩ : ByteArray), 10))))
def turnoutref01_Text.l0 : Nat → Int → ByteArray → ByteArray → Int → Option (ByteArray × Int)
 | 0, _, _, _, _ => none
 | k + 1, x2, x8, x10, x11 => if x11 < (x8.size : Int) then (if 0 ≤ x11 then (if x2 = 4 then (if x11 > 0 then (if x10.size + 1 ≤ 9223372036854775807 then ((turnoutref01_digits.f k 0 (IntKind.u64.wrap (wrap64 (bt x8 x11))) 10).bind fun t242 => (if (x10 ++ (⟨#[46]⟩ : ByteArray)).size + t242.size ≤ 9223372036854775807 then (turnoutref01_Text.l0 k x2 x8 ((x10 ++ (⟨#[46]⟩ : ByteArray)) ++ t242) (wrap64 (x11 + 1))) else (none))) else (none)) else ((turnoutref01_digits.f k 0 (IntKind.u64.wrap (wrap64 (bt x8 x11))) 10).bind fun t243 => (if x10.size + t243.size ≤ 9223372036854775807 then (turnoutref01_Text.l0 k x2 x8 (x10 ++ t243) (wrap64 (x11 + 1))) else (none)))) else (if x11 > 0 then (if x10.size + 1 ≤ 9223372036854775807 then ((turnoutref01_sign.f (wrap64 (Int.tdiv (wrap64 (bt x8 x11)) 16))).bind fun t244 => ((turnoutref01_sign.f (Int.tmod (wrap64 (bt x8 x11)) 16)).bind fun t245 => ((some (([t244, t245] : List Int) : List Int)).bind fun y246 => (if (x10 ++ (⟨#[58]⟩ : ByteArray)).size + (strOfNums y246).size ≤ 9223372036854775807 then (turnoutref01_Text.l0 k x2 x8 ((x10 ++ (⟨#[58]⟩ : ByteArray)) ++ (strOfNums y246)) (wrap64 (x11 + 1))) else (none))))) else (none)) else ((turnoutref01_sign.f (wrap64 (Int.tdiv (wrap64 (bt x8 x11)) 16))).bind fun t249 => ((turnoutref01_sign.f (Int.tmod (wrap64 (bt x8 x11)) 16)).bind fun t250 => ((some (([t249, t250] : List Int) : List Int)).bind fun y251 => (if x10.size + (strOfNums y251).size ≤ 9223372036854775807 then (turnoutref01_Text.l0 k x2 x8 (x10 ++ (strOfNums y251)) (wrap64 (x11 + 1))) else (none))))))) else (none)) else (some (x10, 0))
end
def turnoutref01_Text.f (k : Nat) (a0_0 : Int) (a0_1 : Int) (a1 : Int) (a2 : Int) : Option (ByteArray × Int) := if a2 < 1 then (turnoutref01_Text.j0 k a1 a2 true a0_0 a0_1) else (turnoutref01_Text.j0 k a1 a2 (decide (a2 > 5)) a0_0 a0_1)
set_option maxHeartbeats 8000000 in
set_option maxRecDepth 100000 in
theorem turnoutref01_Text.calls (k : Nat) (a0_0 : Int) (a0_1 : Int) (a1 : Int) (a2 : Int) (r1 : ByteArray) (r2 : Int) (w : World) (h : turnoutref01_Text.f k a0_0 a0_1 a1 a2 = some (r1, r2)) :
  Calls Tryd.prog 11 #[.agg #[.int .u64 a0_0, .int .u64 a0_1], .int .i64 a1, .int .i64 a2] w fun e w' => e = .returned (.tuple #[.string r1, .int .i64 r2]) ∧ Below w.heap.size w w' := by
 have hu24 := Tryd.underlying24
 have HB := Aside0.mk (Below.refl w.heap.size w)
 have H : (if a2 < 1 then (turnoutref01_Text.j0 k a1 a2 true a0_0 a0_1) else (turnoutref01_Text.j0 k a1 a2 (decide (a2 > 5)) a0_0 a0_1)) = some (r1, r2) := h
 clear h
 have HC4 := Aside0.mk H
 clear H
 go_enter Tryd.func11, Tryd.ntmps11
 go_upto_region 1 with (first | ((with_reducible refine gate_dst (N := 3) rfl ?_); refine box_event ?hg (N := 3) ?hd (cs := #[.int .u64 a0_0, .int .u64 a0_1]) (t := 24) ?hr ?_; (case hd => rfl); (case hg => rfl); (case hr => first | (go_simp; done) | (go_simp; rfl)); intro gb234 hg w5 hbox hb; have n0_ := Aside0.mk (below_step (by repeat (first | (with_reducible first | exact HB.out | apply below_alloc | apply pw_below_drewN | apply below_drew1) | exact HB.out)) hb); have n1_ := Aside0.mk (hbox); have n2_ := Aside0.mk ((by rw [hg]; exact (below_size (by repeat (first | (with_reducible first | exact HB.out | apply below_alloc | apply pw_below_drewN | apply below_drew1) | exact HB.out))) : w.heap.size ≤ gb234)); have n3_ := Aside0.mk ((by rw [hg]; exact (below_size (by repeat (first | (with_reducible first | exact HB.out | apply below_alloc | apply pw_below_drewN | apply below_drew1) | exact HB.out))) : w.heap.size ≤ gb234)); clear HB; have HB := n0_; have BK234 := n1_; have GW234 := n2_; have GE234 := n3_; clear n0_ n1_ n2_ n3_; clear hb hbox hg))
 (try simp only [Act.put, List.setIfInBounds_toArray, List.set_cons_zero, List.set_cons_succ])
 go_cut [18] (fun v18 wc => ∃ (kq : Nat) (x18_3 : Bool), v18 = .bool x18_3 ∧ Aside0 (turnoutref01_Text.j0 kq a1 a2 x18_3 a0_0 a0_1 = some (r1, r2)) ∧ Aside0 (kq ≤ k) ∧ Aside0 (wc.heap[gb234]? = some (.cells #[.int .u64 a0_0, .int .u64 a0_1] 24 (0, 0))) ∧ Aside0 (Below w.heap.size w wc))
 case first =>
  have H := HC4.out
  clear HC4
  by_cases c6 : a2 < 1
  ·
   rw [if_pos c6] at H
   have c6b0 : decide (a2 < 1) = true := decide_eq_true c6
   clear c6
   (first | rw [c6b0] | (simp only [i64_w, i32_w]; rw [c6b0]) | skip)
   have H' := Aside0.mk H
   clear H
   go_wp2
   go_meet
   case rel => exact ⟨_, (true), (by first | rfl | (simp; done) | (simp [*]; done)), H', ⟨by first | omega | exact Nat.le_refl _⟩, ⟨by (with_reducible repeat (first | refine blk_drewN ?_ _ | refine blk_drew ?_ | refine blk_alloc ?_ _)); exact BK234.out⟩, ⟨by repeat (first | (with_reducible first | exact HB.out | apply below_alloc | apply pw_below_drewN | apply below_drew1 | refine below_set ?_ GE234.out) | exact HB.out)⟩⟩
  ·
   rw [if_neg c6] at H
   have c6b0 : decide (a2 < 1) = false := decide_eq_false c6
   clear c6
   (first | rw [c6b0] | (simp only [i64_w, i32_w]; rw [c6b0]) | skip)
   have H' := Aside0.mk H
   clear H
   go_wp2
   go_meet
   case rel => exact ⟨_, (decide (a2 > 5)), (by first | rfl | (simp; done) | (simp [*]; done)), H', ⟨by first | omega | exact Nat.le_refl _⟩, ⟨by (with_reducible repeat (first | refine blk_drewN ?_ _ | refine blk_drew ?_ | refine blk_alloc ?_ _)); exact BK234.out⟩, ⟨by repeat (first | (with_reducible first | exact HB.out | apply below_alloc | apply pw_below_drewN | apply below_drew1 | refine below_set ?_ GE234.out) | exact HB.out)⟩⟩
 case rest =>
  clear HC4
  try clear c1
  try clear p2
  try clear c6
  try clear c6b0
  obtain ⟨kq, x18_3, rfl, HA, HJ3, BK234, HB⟩ := hcut
  cases kq with
  | zero => exact absurd HA.out (by simp [turnoutref01_Text.j0])
  | succ kj3 =>
   have H := HA.out
   clear HA
   simp only [turnoutref01_Text.j0] at H
   by_cases c7 : x18_3 = true
   ·
    subst c7
    have H1 : (some ((⟨#[]⟩ : ByteArray), 1)) = some (r1, r2) := by rw [if_pos rfl] at H; exact H
    clear H
    have H := H1
    clear H1
    simp only [Option.some.injEq, Prod.mk.injEq] at H
    obtain ⟨rfl, rfl⟩ := H
    go_wp2
    go_ret2
    exact ⟨by first | rfl | (simp [errW_none, errW_some] <;> rfl) | (simp [*, errW_none, errW_some] <;> rfl), by repeat (first | (with_reducible first | exact HB.out | apply below_alloc | apply pw_below_drewN | apply below_drew1 | refine below_set ?_ GE234.out) | exact HB.out)⟩
   ·
    replace c7 := Bool.eq_false_iff.mpr c7
    subst c7
    have H1 : ((turnoutref01_Has.f kj3 a1 a2).bind fun t235 => (if t235 = true then ((turnoutref01_Fits.f a0_0 a0_1 a1).bind fun t236 => (if t236 = true then (if a2 = 1 then ((turnoutref01_digits.f kj3 a0_0 a0_1 10).bind fun t237 => (some (t237, 0))) else (if a2 = 2 then ((turnoutref01_digits.f kj3 a0_0 a0_1 16).bind fun t238 => (if 2 + t238.size ≤ 9223372036854775807 then (some ((⟨#[48, 120]⟩ : ByteArray) ++ t238, 0)) else (none))) else (if a2 = 3 then ((turnoutref01_digits.f kj3 a0_0 a0_1 2).bind fun t239 => (if 2 + t239.size ≤ 9223372036854775807 then (some ((⟨#[48, 98]⟩ : ByteArray) ++ t239, 0)) else (none))) else ((turnoutref01_Bytes.f kj3 a0_0 a0_1 a1).bind fun bt240 => (turnoutref01_Text.l0 kj3 a2 bt240.1 (⟨#[]⟩ : ByteArray) 0))))) else (some ((⟨#[]⟩ : ByteArray), 11)))) else (some ((⟨#[]⟩ : ByteArray), 10)))) = some (r1, r2) := by rw [if_neg (show ¬ (false = true) by decide)] at H; exact H
    clear H
    have H := H1
    clear H1
    replace H := Option.bind_eq_some_iff.mp H
    obtain ⟨t235, A80, H⟩ := H
    replace H : (if t235 = true then ((turnoutref01_Fits.f a0_0 a0_1 a1).bind fun t236 => (if t236 = true then (if a2 = 1 then ((turnoutref01_digits.f kj3 a0_0 a0_1 10).bind fun t237 => (some (t237, 0))) else (if a2 = 2 then ((turnoutref01_digits.f kj3 a0_0 a0_1 16).bind fun t238 => (if 2 + t238.size ≤ 9223372036854775807 then (some ((⟨#[48, 120]⟩ : ByteArray) ++ t238, 0)) else (none))) else (if a2 = 3 then ((turnoutref01_digits.f kj3 a0_0 a0_1 2).bind fun t239 => (if 2 + t239.size ≤ 9223372036854775807 then (some ((⟨#[48, 98]⟩ : ByteArray) ++ t239, 0)) else (none))) else ((turnoutref01_Bytes.f kj3 a0_0 a0_1 a1).bind fun bt240 => (turnoutref01_Text.l0 kj3 a2 bt240.1 (⟨#[]⟩ : ByteArray) 0))))) else (some ((⟨#[]⟩ : ByteArray), 11)))) else (some ((⟨#[]⟩ : ByteArray), 10))) = some (r1, r2) := H
    have A8 := Aside0.mk A80
    clear A80
    by_cases c9 : t235 = true
    ·
     subst c9
     have H1 : ((turnoutref01_Fits.f a0_0 a0_1 a1).bind fun t236 => (if t236 = true then (if a2 = 1 then ((turnoutref01_digits.f kj3 a0_0 a0_1 10).bind fun t237 => (some (t237, 0))) else (if a2 = 2 then ((turnoutref01_digits.f kj3 a0_0 a0_1 16).bind fun t238 => (if 2 + t238.size ≤ 9223372036854775807 then (some ((⟨#[48, 120]⟩ : ByteArray) ++ t238, 0)) else (none))) else (if a2 = 3 then ((turnoutref01_digits.f kj3 a0_0 a0_1 2).bind fun t239 => (if 2 + t239.size ≤ 9223372036854775807 then (some ((⟨#[48, 98]⟩ : ByteArray) ++ t239, 0)) else (none))) else ((turnoutref01_Bytes.f kj3 a0_0 a0_1 a1).bind fun bt240 => (turnoutref01_Text.l0 kj3 a2 bt240.1 (⟨#[]⟩ : ByteArray) 0))))) else (some ((⟨#[]⟩ : ByteArray), 11)))) = some (r1, r2) := by rw [if_pos rfl] at H; exact H
     clear H
     have H := H1
     clear H1
     replace H := Option.bind_eq_some_iff.mp H
     obtain ⟨t236, A100, H⟩ := H
     replace H : (if t236 = true then (if a2 = 1 then ((turnoutref01_digits.f kj3 a0_0 a0_1 10).bind fun t237 => (some (t237, 0))) else (if a2 = 2 then ((turnoutref01_digits.f kj3 a0_0 a0_1 16).bind fun t238 => (if 2 + t238.size ≤ 9223372036854775807 then (some ((⟨#[48, 120]⟩ : ByteArray) ++ t238, 0)) else (none))) else (if a2 = 3 then ((turnoutref01_digits.f kj3 a0_0 a0_1 2).bind fun t239 => (if 2 + t239.size ≤ 9223372036854775807 then (some ((⟨#[48, 98]⟩ : ByteArray) ++ t239, 0)) else (none))) else ((turnoutref01_Bytes.f kj3 a0_0 a0_1 a1).bind fun bt240 => (turnoutref01_Text.l0 kj3 a2 bt240.1 (⟨#[]⟩ : ByteArray) 0))))) else (some ((⟨#[]⟩ : ByteArray), 11))) = some (r1, r2) := H
     have A10 := Aside0.mk A100
     clear A100
     by_cases c11 : t236 = true
     ·
      subst c11
      have H1 : (if a2 = 1 then ((turnoutref01_digits.f kj3 a0_0 a0_1 10).bind fun t237 => (some (t237, 0))) else (if a2 = 2 then ((turnoutref01_digits.f kj3 a0_0 a0_1 16).bind fun t238 => (if 2 + t238.size ≤ 9223372036854775807 then (some ((⟨#[48, 120]⟩ : ByteArray) ++ t238, 0)) else (none))) else (if a2 = 3 then ((turnoutref01_digits.f kj3 a0_0 a0_1 2).bind fun t239 => (if 2 + t239.size ≤ 9223372036854775807 then (some ((⟨#[48, 98]⟩ : ByteArray) ++ t239, 0)) else (none))) else ((turnoutref01_Bytes.f kj3 a0_0 a0_1 a1).bind fun bt240 => (turnoutref01_Text.l0 kj3 a2 bt240.1 (⟨#[]⟩ : ByteArray) 0))))) = some (r1, r2) := by rw [if_pos rfl] at H; exact H
      clear H
      have H := H1
      clear H1
      by_cases c12 : a2 = 1
      ·
       rw [if_pos c12] at H
       have c12b0 : (a2 == 1) = true := beq_iff_eq.mpr c12
       have c12b1 : (a2 != 1) = false := bne_eq_false_iff_eq.mpr c12
       clear c12
       replace H := Option.bind_eq_some_iff.mp H
       obtain ⟨t237, A130, H⟩ := H
       replace H : (some (t237, 0)) = some (r1, r2) := H
       have A13 := Aside0.mk A130
       clear A130
       simp only [Option.some.injEq, Prod.mk.injEq] at H
       obtain ⟨rfl, rfl⟩ := H
       go_wp2_with (first | ((with_reducible refine gate_callee (f := 46) rfl ?_); refine goesL_ (some 21) rfl rfl Tryd.func46 (by kernel_rfl) rfl #[.int .i64 a1, .int .i64 a2] rfl (by (try simp only [List.map_toArray, List.map_cons, List.map_nil]); first | done | rfl | (simp only [List.length_drop, List.length_take]; rfl)) ?_; (with_reducible refine (turnoutref01_Has.calls kj3 a1 a2 true _ A8.out).mono ?_); rintro e w' ⟨rfl, ⟨nd, rfl⟩⟩; refine ⟨_, rfl, ?_⟩; have hcz14_0 : wc.cell? ⟨gb234, 0, none⟩ = some (.int .u64 a0_0) := (blk_cell BK234.out 0).trans rfl; have hcz14_1 : wc.cell? ⟨gb234, 1, none⟩ = some (.int .u64 a0_1) := (blk_cell BK234.out 1).trans rfl; have hfz14_0 := blk_frozen BK234.out 0; have hfz14_1 := blk_frozen BK234.out 1) | ((with_reducible refine gate_callee (f := 27) rfl ?_); refine goesL_ (some 25) rfl rfl Tryd.func27 (by kernel_rfl) rfl #[.agg #[.int .u64 a0_0, .int .u64 a0_1], .int .i64 a1] rfl (by (try simp only [List.map_toArray, List.map_cons, List.map_nil]); first | done | rfl | (simp only [List.length_drop, List.length_take]; rfl)) ?_; (with_reducible refine (turnoutref01_Fits.calls a0_0 a0_1 a1 true _ A10.out).mono ?_); rintro e w15 ⟨rfl, hb⟩; refine ⟨_, rfl, ?_⟩; have n0_ := Aside0.mk (blk_below (g := gb234) (o := .cells #[.int .u64 a0_0, .int .u64 a0_1] 24 (0, 0)) (by (with_reducible repeat (first | refine blk_drewN ?_ _ | refine blk_drew ?_ | refine blk_alloc ?_ _)); exact BK234.out) hb); have n1_ := Aside0.mk (below_step (by repeat (first | (with_reducible first | exact HB.out | apply below_alloc | apply pw_below_drewN | apply below_drew1 | refine below_set ?_ GE234.out) | exact HB.out)) hb); clear BK234; clear HB; have BK234 := n0_; have HB := n1_; clear n0_ n1_; (try clear hb); (try clear hb2); (try clear hk); (try clear hi); have hcz16_0 : w15.cell? ⟨gb234, 0, none⟩ = some (.int .u64 a0_0) := (blk_cell BK234.out 0).trans rfl; have hcz16_1 : w15.cell? ⟨gb234, 1, none⟩ = some (.int .u64 a0_1) := (blk_cell BK234.out 1).trans rfl; have hfz16_0 := blk_frozen BK234.out 0; have hfz16_1 := blk_frozen BK234.out 1) | ((with_reducible refine gate_callee (f := 47) rfl ?_); refine goesL_ (some 31) rfl rfl Tryd.func47 (by kernel_rfl) rfl #[.agg #[.int .u64 a0_0, .int .u64 a0_1], .int .i64 10] rfl (by (try simp only [List.map_toArray, List.map_cons, List.map_nil]); first | done | rfl | (simp only [List.length_drop, List.length_take]; rfl)) ?_; (with_reducible refine (turnoutref01_digits.calls kj3 a0_0 a0_1 10 t237 _ A13.out).mono ?_); rintro e w17 ⟨rfl, hb⟩; refine ⟨_, rfl, ?_⟩; have n0_ := Aside0.mk (blk_below (g := gb234) (o := .cells #[.int .u64 a0_0, .int .u64 a0_1] 24 (0, 0)) (by (with_reducible repeat (first | refine blk_drewN ?_ _ | refine blk_drew ?_ | refine blk_alloc ?_ _)); exact BK234.out) hb); have n1_ := Aside0.mk (below_step (by repeat (first | (with_reducible first | exact HB.out | apply below_alloc | apply pw_below_drewN | apply below_drew1 | refine below_set ?_ GE234.out) | exact HB.out)) hb); clear BK234; clear HB; have BK234 := n0_; have HB := n1_; clear n0_ n1_; (try clear hb); (try clear hb2); (try clear hk); (try clear hi)))
       go_ret2
       exact ⟨by first | rfl | (simp [errW_none, errW_some] <;> rfl) | (simp [*, errW_none, errW_some] <;> rfl), by repeat (first | (with_reducible first | exact HB.out | apply below_alloc | apply pw_below_drewN | apply below_drew1 | refine below_set ?_ GE234.out) | exact HB.out)⟩
      ·
       rw [if_neg c12] at H
       have c12b0 : (a2 == 1) = false := beq_eq_false_iff_ne.mpr c12
       have c12b1 : (a2 != 1) = true := bne_iff_ne.mpr c12
       by_cases c18 : a2 = 2
       ·
        rw [if_pos c18] at H
        have c18b0 : (a2 == 2) = true := beq_iff_eq.mpr c18
        have c18b1 : (a2 != 2) = false := bne_eq_false_iff_eq.mpr c18
        clear c18
        replace H := Option.bind_eq_some_iff.mp H
        obtain ⟨t238, A190, H⟩ := H
        replace H : (if 2 + t238.size ≤ 9223372036854775807 then (some ((⟨#[48, 120]⟩ : ByteArray) ++ t238, 0)) else (none)) = some (r1, r2) := H
        have A19 := Aside0.mk A190
        clear A190
        by_cases c20 : 2 + t238.size ≤ 9223372036854775807
        ·
         rw [if_pos c20] at H
         have c20b0 := eq_true c20
         have c20b1 : decide (2 + t238.size ≤ 9223372036854775807) = true := decide_eq_true c20
         try have c20b2 : (9223372036854775807 < 2 + t238.size) = False := eq_false (Nat.not_lt.2 c20)
         simp only [Option.some.injEq, Prod.mk.injEq] at H
         obtain ⟨rfl, rfl⟩ := H
         go_wp2_with (first | ((with_reducible refine gate_callee (f := 46) rfl ?_); refine goesL_ (some 21) rfl rfl Tryd.func46 (by kernel_rfl) rfl #[.int .i64 a1, .int .i64 a2] rfl (by (try simp only [List.map_toArray, List.map_cons, List.map_nil]); first | done | rfl | (simp only [List.length_drop, List.length_take]; rfl)) ?_; (with_reducible refine (turnoutref01_Has.calls kj3 a1 a2 true _ A8.out).mono ?_); rintro e w' ⟨rfl, ⟨nd, rfl⟩⟩; refine ⟨_, rfl, ?_⟩; have hcz21_0 : wc.cell? ⟨gb234, 0, none⟩ = some (.int .u64 a0_0) := (blk_cell BK234.out 0).trans rfl; have hcz21_1 : wc.cell? ⟨gb234, 1, none⟩ = some (.int .u64 a0_1) := (blk_cell BK234.out 1).trans rfl; have hfz21_0 := blk_frozen BK234.out 0; have hfz21_1 := blk_frozen BK234.out 1) | ((with_reducible refine gate_callee (f := 27) rfl ?_); refine goesL_ (some 25) rfl rfl Tryd.func27 (by kernel_rfl) rfl #[.agg #[.int .u64 a0_0, .int .u64 a0_1], .int .i64 a1] rfl (by (try simp only [List.map_toArray, List.map_cons, List.map_nil]); first | done | rfl | (simp only [List.length_drop, List.length_take]; rfl)) ?_; (with_reducible refine (turnoutref01_Fits.calls a0_0 a0_1 a1 true _ A10.out).mono ?_); rintro e w22 ⟨rfl, hb⟩; refine ⟨_, rfl, ?_⟩; have n0_ := Aside0.mk (blk_below (g := gb234) (o := .cells #[.int .u64 a0_0, .int .u64 a0_1] 24 (0, 0)) (by (with_reducible repeat (first | refine blk_drewN ?_ _ | refine blk_drew ?_ | refine blk_alloc ?_ _)); exact BK234.out) hb); have n1_ := Aside0.mk (below_step (by repeat (first | (with_reducible first | exact HB.out | apply below_alloc | apply pw_below_drewN | apply below_drew1 | refine below_set ?_ GE234.out) | exact HB.out)) hb); clear BK234; clear HB; have BK234 := n0_; have HB := n1_; clear n0_ n1_; (try clear hb); (try clear hb2); (try clear hk); (try clear hi); have hcz23_0 : w22.cell? ⟨gb234, 0, none⟩ = some (.int .u64 a0_0) := (blk_cell BK234.out 0).trans rfl; have hcz23_1 : w22.cell? ⟨gb234, 1, none⟩ = some (.int .u64 a0_1) := (blk_cell BK234.out 1).trans rfl; have hfz23_0 := blk_frozen BK234.out 0; have hfz23_1 := blk_frozen BK234.out 1) | ((with_reducible refine gate_callee (f := 47) rfl ?_); refine goesL_ (some 35) rfl rfl Tryd.func47 (by kernel_rfl) rfl #[.agg #[.int .u64 a0_0, .int .u64 a0_1], .int .i64 16] rfl (by (try simp only [List.map_toArray, List.map_cons, List.map_nil]); first | done | rfl | (simp only [List.length_drop, List.length_take]; rfl)) ?_; (with_reducible refine (turnoutref01_digits.calls kj3 a0_0 a0_1 16 t238 _ A19.out).mono ?_); rintro e w24 ⟨rfl, hb⟩; refine ⟨_, rfl, ?_⟩; have n0_ := Aside0.mk (blk_below (g := gb234) (o := .cells #[.int .u64 a0_0, .int .u64 a0_1] 24 (0, 0)) (by (with_reducible repeat (first | refine blk_drewN ?_ _ | refine blk_drew ?_ | refine blk_alloc ?_ _)); exact BK234.out) hb); have n1_ := Aside0.mk (below_step (by repeat (first | (with_reducible first | exact HB.out | apply below_alloc | apply pw_below_drewN | apply below_drew1 | refine below_set ?_ GE234.out) | exact HB.out)) hb); clear BK234; clear HB; have BK234 := n0_; have HB := n1_; clear n0_ n1_; (try clear hb); (try clear hb2); (try clear hk); (try clear hi)))
         go_ret2
         exact ⟨by first | rfl | (simp [errW_none, errW_some] <;> rfl) | (simp [*, errW_none, errW_some] <;> rfl), by repeat (first | (with_reducible first | exact HB.out | apply below_alloc | apply pw_below_drewN | apply below_drew1 | refine below_set ?_ GE234.out) | exact HB.out)⟩
        ·
         rw [if_neg c20] at H
         exact absurd H (by simp)
       ·
        rw [if_neg c18] at H
        have c18b0 : (a2 == 2) = false := beq_eq_false_iff_ne.mpr c18
        have c18b1 : (a2 != 2) = true := bne_iff_ne.mpr c18
        by_cases c25 : a2 = 3
        ·
         rw [if_pos c25] at H
         have c25b0 : (a2 == 3) = true := beq_iff_eq.mpr c25
         have c25b1 : (a2 != 3) = false := bne_eq_false_iff_eq.mpr c25
         clear c25
         replace H := Option.bind_eq_some_iff.mp H
         obtain ⟨t239, A260, H⟩ := H
         replace H : (if 2 + t239.size ≤ 9223372036854775807 then (some ((⟨#[48, 98]⟩ : ByteArray) ++ t239, 0)) else (none)) = some (r1, r2) := H
         have A26 := Aside0.mk A260
         clear A260
         by_cases c27 : 2 + t239.size ≤ 9223372036854775807
         ·
          rw [if_pos c27] at H
          have c27b0 := eq_true c27
          have c27b1 : decide (2 + t239.size ≤ 9223372036854775807) = true := decide_eq_true c27
          try have c27b2 : (9223372036854775807 < 2 + t239.size) = False := eq_false (Nat.not_lt.2 c27)
          simp only [Option.some.injEq, Prod.mk.injEq] at H
          obtain ⟨rfl, rfl⟩ := H
          go_wp2_with (first | ((with_reducible refine gate_callee (f := 46) rfl ?_); refine goesL_ (some 21) rfl rfl Tryd.func46 (by kernel_rfl) rfl #[.int .i64 a1, .int .i64 a2] rfl (by (try simp only [List.map_toArray, List.map_cons, List.map_nil]); first | done | rfl | (simp only [List.length_drop, List.length_take]; rfl)) ?_; (with_reducible refine (turnoutref01_Has.calls kj3 a1 a2 true _ A8.out).mono ?_); rintro e w' ⟨rfl, ⟨nd, rfl⟩⟩; refine ⟨_, rfl, ?_⟩; have hcz28_0 : wc.cell? ⟨gb234, 0, none⟩ = some (.int .u64 a0_0) := (blk_cell BK234.out 0).trans rfl; have hcz28_1 : wc.cell? ⟨gb234, 1, none⟩ = some (.int .u64 a0_1) := (blk_cell BK234.out 1).trans rfl; have hfz28_0 := blk_frozen BK234.out 0; have hfz28_1 := blk_frozen BK234.out 1) | ((with_reducible refine gate_callee (f := 27) rfl ?_); refine goesL_ (some 25) rfl rfl Tryd.func27 (by kernel_rfl) rfl #[.agg #[.int .u64 a0_0, .int .u64 a0_1], .int .i64 a1] rfl (by (try simp only [List.map_toArray, List.map_cons, List.map_nil]); first | done | rfl | (simp only [List.length_drop, List.length_take]; rfl)) ?_; (with_reducible refine (turnoutref01_Fits.calls a0_0 a0_1 a1 true _ A10.out).mono ?_); rintro e w29 ⟨rfl, hb⟩; refine ⟨_, rfl, ?_⟩; have n0_ := Aside0.mk (blk_below (g := gb234) (o := .cells #[.int .u64 a0_0, .int .u64 a0_1] 24 (0, 0)) (by (with_reducible repeat (first | refine blk_drewN ?_ _ | refine blk_drew ?_ | refine blk_alloc ?_ _)); exact BK234.out) hb); have n1_ := Aside0.mk (below_step (by repeat (first | (with_reducible first | exact HB.out | apply below_alloc | apply pw_below_drewN | apply below_drew1 | refine below_set ?_ GE234.out) | exact HB.out)) hb); clear BK234; clear HB; have BK234 := n0_; have HB := n1_; clear n0_ n1_; (try clear hb); (try clear hb2); (try clear hk); (try clear hi); have hcz30_0 : w29.cell? ⟨gb234, 0, none⟩ = some (.int .u64 a0_0) := (blk_cell BK234.out 0).trans rfl; have hcz30_1 : w29.cell? ⟨gb234, 1, none⟩ = some (.int .u64 a0_1) := (blk_cell BK234.out 1).trans rfl; have hfz30_0 := blk_frozen BK234.out 0; have hfz30_1 := blk_frozen BK234.out 1) | ((with_reducible refine gate_callee (f := 47) rfl ?_); refine goesL_ (some 40) rfl rfl Tryd.func47 (by kernel_rfl) rfl #[.agg #[.int .u64 a0_0, .int .u64 a0_1], .int .i64 2] rfl (by (try simp only [List.map_toArray, List.map_cons, List.map_nil]); first | done | rfl | (simp only [List.length_drop, List.length_take]; rfl)) ?_; (with_reducible refine (turnoutref01_digits.calls kj3 a0_0 a0_1 2 t239 _ A26.out).mono ?_); rintro e w31 ⟨rfl, hb⟩; refine ⟨_, rfl, ?_⟩; have n0_ := Aside0.mk (blk_below (g := gb234) (o := .cells #[.int .u64 a0_0, .int .u64 a0_1] 24 (0, 0)) (by (with_reducible repeat (first | refine blk_drewN ?_ _ | refine blk_drew ?_ | refine blk_alloc ?_ _)); exact BK234.out) hb); have n1_ := Aside0.mk (below_step (by repeat (first | (with_reducible first | exact HB.out | apply below_alloc | apply pw_below_drewN | apply below_drew1 | refine below_set ?_ GE234.out) | exact HB.out)) hb); clear BK234; clear HB; have BK234 := n0_; have HB := n1_; clear n0_ n1_; (try clear hb); (try clear hb2); (try clear hk); (try clear hi)))
          go_ret2
          exact ⟨by first | rfl | (simp [errW_none, errW_some] <;> rfl) | (simp [*, errW_none, errW_some] <;> rfl), by repeat (first | (with_reducible first | exact HB.out | apply below_alloc | apply pw_below_drewN | apply below_drew1 | refine below_set ?_ GE234.out) | exact HB.out)⟩
         ·
          rw [if_neg c27] at H
          exact absurd H (by simp)
        ·
         rw [if_neg c25] at H
         have c25b0 : (a2 == 3) = false := beq_eq_false_iff_ne.mpr c25
         have c25b1 : (a2 != 3) = true := bne_iff_ne.mpr c25
         replace H := Option.bind_eq_some_iff.mp H
         obtain ⟨⟨t240, t241⟩, A320, H⟩ := H
         replace H : (turnoutref01_Text.l0 kj3 a2 t240 (⟨#[]⟩ : ByteArray) 0) = some (r1, r2) := H
         have A32 := Aside0.mk A320
         clear A320
         have H' := Aside0.mk H
         clear H
         go_wp2_with (first | ((with_reducible refine gate_callee (f := 46) rfl ?_); refine goesL_ (some 21) rfl rfl Tryd.func46 (by kernel_rfl) rfl #[.int .i64 a1, .int .i64 a2] rfl (by (try simp only [List.map_toArray, List.map_cons, List.map_nil]); first | done | rfl | (simp only [List.length_drop, List.length_take]; rfl)) ?_; (with_reducible refine (turnoutref01_Has.calls kj3 a1 a2 true _ A8.out).mono ?_); rintro e w' ⟨rfl, ⟨nd, rfl⟩⟩; refine ⟨_, rfl, ?_⟩; have hcz33_0 : wc.cell? ⟨gb234, 0, none⟩ = some (.int .u64 a0_0) := (blk_cell BK234.out 0).trans rfl; have hcz33_1 : wc.cell? ⟨gb234, 1, none⟩ = some (.int .u64 a0_1) := (blk_cell BK234.out 1).trans rfl; have hfz33_0 := blk_frozen BK234.out 0; have hfz33_1 := blk_frozen BK234.out 1) | ((with_reducible refine gate_callee (f := 27) rfl ?_); refine goesL_ (some 25) rfl rfl Tryd.func27 (by kernel_rfl) rfl #[.agg #[.int .u64 a0_0, .int .u64 a0_1], .int .i64 a1] rfl (by (try simp only [List.map_toArray, List.map_cons, List.map_nil]); first | done | rfl | (simp only [List.length_drop, List.length_take]; rfl)) ?_; (with_reducible refine (turnoutref01_Fits.calls a0_0 a0_1 a1 true _ A10.out).mono ?_); rintro e w34 ⟨rfl, hb⟩; refine ⟨_, rfl, ?_⟩; have n0_ := Aside0.mk (blk_below (g := gb234) (o := .cells #[.int .u64 a0_0, .int .u64 a0_1] 24 (0, 0)) (by (with_reducible repeat (first | refine blk_drewN ?_ _ | refine blk_drew ?_ | refine blk_alloc ?_ _)); exact BK234.out) hb); have n1_ := Aside0.mk (below_step (by repeat (first | (with_reducible first | exact HB.out | apply below_alloc | apply pw_below_drewN | apply below_drew1 | refine below_set ?_ GE234.out) | exact HB.out)) hb); clear BK234; clear HB; have BK234 := n0_; have HB := n1_; clear n0_ n1_; (try clear hb); (try clear hb2); (try clear hk); (try clear hi); have hcz35_0 : w34.cell? ⟨gb234, 0, none⟩ = some (.int .u64 a0_0) := (blk_cell BK234.out 0).trans rfl; have hcz35_1 : w34.cell? ⟨gb234, 1, none⟩ = some (.int .u64 a0_1) := (blk_cell BK234.out 1).trans rfl; have hfz35_0 := blk_frozen BK234.out 0; have hfz35_1 := blk_frozen BK234.out 1) | ((with_reducible refine gate_callee (f := 48) rfl ?_); refine goesL_ (some 45) rfl rfl Tryd.func48 (by kernel_rfl) rfl #[.agg #[.int .u64 a0_0, .int .u64 a0_1], .int .i64 a1] rfl (by (try simp only [List.map_toArray, List.map_cons, List.map_nil]); first | done | rfl | (simp only [List.length_drop, List.length_take]; rfl)) ?_; (with_reducible refine (turnoutref01_Bytes.calls kj3 a0_0 a0_1 a1 t240 t241 _ A32.out).mono ?_); rintro e w36 ⟨rfl, hb⟩; refine ⟨_, rfl, ?_⟩; have n0_ := Aside0.mk (blk_below (g := gb234) (o := .cells #[.int .u64 a0_0, .int .u64 a0_1] 24 (0, 0)) (by (with_reducible repeat (first | refine blk_drewN ?_ _ | refine blk_drew ?_ | refine blk_alloc ?_ _)); exact BK234.out) hb); have n1_ := Aside0.mk (below_step (by repeat (first | (with_reducible first | exact HB.out | apply below_alloc | apply pw_below_drewN | apply below_drew1 | refine below_set ?_ GE234.out) | exact HB.out)) hb); clear BK234; clear HB; have BK234 := n0_; have HB := n1_; clear n0_ n1_; (try clear hb); (try clear hb2); (try clear hk); (try clear hi)))
         go_loopg [10, 11] kj3 (fun kq v10 v11 w' => ∃ (x10_2 : ByteArray) (x11_2 : Int), v10 = .string x10_2 ∧ v11 = .int .i64 x11_2 ∧ Aside0 (turnoutref01_Text.l0 kq a2 t240 x10_2 x11_2 = some (r1, r2)) ∧ Aside0 (kq ≤ kj3) ∧ Aside0 (w'.heap[gb234]? = some (.cells #[.int .u64 a0_0, .int .u64 a0_1] 24 (0, 0))) ∧ Aside0 (Below w.heap.size w w'))
         case atStart => exact ⟨((⟨#[]⟩ : ByteArray)), (0), (by first | rfl | (simp; done) | (simp [*]; done)), (by first | rfl | (simp; done) | (simp [*]; done)), H', ⟨Nat.le_refl _⟩, ⟨by (with_reducible repeat (first | refine blk_drewN ?_ _ | refine blk_drew ?_ | refine blk_alloc ?_ _)); exact BK234.out⟩, ⟨by repeat (first | (with_reducible first | exact HB.out | apply below_alloc | apply pw_below_drewN | apply below_drew1 | refine below_set ?_ GE234.out) | exact HB.out)⟩⟩
         case round =>
          clear H'
          try clear c1
          try clear c2
          try clear p2
          try clear c4
          try clear c6
          try clear c6b0
          try clear c7
          try clear c9
          try clear c11
          try clear c12
          try clear c12b0
          try clear c12b1
          try clear c18
          try clear c18b0
          try clear c18b1
          try clear c20
          try clear c20b0
          try clear c20b1
          try clear c20b2
          try clear c25
          try clear c25b0
          try clear c25b1
          try clear c27
          try clear c27b0
          try clear c27b1
          try clear c27b2
          try clear hcz14_0
          try clear hcz14_1
          try clear hcz16_0
          try clear hcz16_1
          try clear hcz21_0
          try clear hcz21_1
          try clear hcz23_0
          try clear hcz23_1
          try clear hcz28_0
          try clear hcz28_1
          try clear hcz30_0
          try clear hcz30_1
          try clear hcz33_0
          try clear hcz33_1
          try clear hcz35_0
          try clear hcz35_1
          try clear hfz14_0
          try clear hfz14_1
          try clear hfz16_0
          try clear hfz16_1
          try clear hfz21_0
          try clear hfz21_1
          try clear hfz23_0
          try clear hfz23_1
          try clear hfz28_0
          try clear hfz28_1
          try clear hfz30_0
          try clear hfz30_1
          try clear hfz33_0
          try clear hfz33_1
          try clear hfz35_0
          try clear hfz35_1
          try clear p2
          obtain ⟨x10_2, x11_2, rfl, rfl, HA, HK2, BK234, HB⟩ := hrel
          cases gk with
          | zero => exact absurd HA.out (by simp [turnoutref01_Text.l0])
          | succ k2 =>
           have H := HA.out
           clear HA
           simp only [turnoutref01_Text.l0] at H
           by_cases c37 : x11_2 < (t240.size : Int)
           ·
            rw [if_pos c37] at H
            have c37b0 : decide (x11_2 < (t240.size : Int)) = true := decide_eq_true c37
            clear c37
            by_cases c38 : 0 ≤ x11_2
            ·
             rw [if_pos c38] at H
             have c38b0 : decide (0 ≤ x11_2) = true := decide_eq_true c38
             clear c38
             by_cases c40 : a2 = 4
             ·
              rw [if_pos c40] at H
              have c40b0 : (a2 == 4) = true := beq_iff_eq.mpr c40
              have c40b1 : (a2 != 4) = false := bne_eq_false_iff_eq.mpr c40
              clear c40
              by_cases c41 : x11_2 > 0
              ·
               rw [if_pos c41] at H
               have c41b0 : decide (0 < x11_2) = true := decide_eq_true c41
               clear c41
               by_cases c42 : x10_2.size + 1 ≤ 9223372036854775807
               ·
                rw [if_pos c42] at H
                have c42b0 := eq_true c42
                have c42b1 : decide (x10_2.size + 1 ≤ 9223372036854775807) = true := decide_eq_true c42
                try have c42b2 : (9223372036854775807 < x10_2.size + 1) = False := eq_false (Nat.not_lt.2 c42)
                replace H := Option.bind_eq_some_iff.mp H
                obtain ⟨t242, A430, H⟩ := H
                replace H : (if (x10_2 ++ (⟨#[46]⟩ : ByteArray)).size + t242.size ≤ 9223372036854775807 then (turnoutref01_Text.l0 k2 a2 t240 ((x10_2 ++ (⟨#[46]⟩ : ByteArray)) ++ t242) (wrap64 (x11_2 + 1))) else (none)) = some (r1, r2) := H
                have A43 := Aside0.mk A430
                clear A430
                by_cases c44 : (x10_2 ++ (⟨#[46]⟩ : ByteArray)).size + t242.size ≤ 9223372036854775807
                ·
                 rw [if_pos c44] at H
                 have c44b0 := eq_true c44
                 have c44b1 : decide ((x10_2 ++ (⟨#[46]⟩ : ByteArray)).size + t242.size ≤ 9223372036854775807) = true := decide_eq_true c44
                 try have c44b2 : (9223372036854775807 < (x10_2 ++ (⟨#[46]⟩ : ByteArray)).size + t242.size) = False := eq_false (Nat.not_lt.2 c44)
                 try have c44b3 : (9223372036854775807 < x10_2.size + 1 + t242.size) = False := eq_false (by have z_ := c44; simp only [ByteArray.size_append] at z_; have l0_ : (⟨#[46]⟩ : ByteArray).size = 1 := rfl; omega)
                 try have c44b4 : decide (x10_2.size + 1 + t242.size ≤ 9223372036854775807) = true := decide_eq_true (by have z_ := c44; simp only [ByteArray.size_append] at z_; have l0_ : (⟨#[46]⟩ : ByteArray).size = 1 := rfl; omega)
                 have H' := Aside0.mk H
                 clear H
                 have p39 : 0 ≤ (x11_2 : Int) := of_decide_eq_true (by first | (with_reducible assumption) | assumption)
                 have q39 : x11_2 < (t240.size : Int) := of_decide_eq_true (by first | (with_reducible assumption) | assumption)
                 have hx39 := bt_at t240 x11_2
                 replace p39 := eq_true p39
                 replace q39 := eq_true q39
                 go_wp2_with (first | ((with_reducible refine gate_callee (f := 47) rfl ?_); refine goesL_ (some 68) rfl rfl Tryd.func47 (by kernel_rfl) rfl #[.agg #[.int .u64 0, .int .u64 (IntKind.u64.wrap (wrap64 (bt t240 x11_2)))], .int .i64 10] rfl (by (try simp only [List.map_toArray, List.map_cons, List.map_nil]); first | done | rfl | (simp only [List.length_drop, List.length_take]; rfl)) ?_; (with_reducible refine (turnoutref01_digits.calls k2 0 (IntKind.u64.wrap (wrap64 (bt t240 x11_2))) 10 t242 _ A43.out).mono ?_); rintro e w45 ⟨rfl, hb⟩; refine ⟨_, rfl, ?_⟩; have n0_ := Aside0.mk (blk_below (g := gb234) (o := .cells #[.int .u64 a0_0, .int .u64 a0_1] 24 (0, 0)) (by (with_reducible repeat (first | refine blk_drewN ?_ _ | refine blk_drew ?_ | refine blk_alloc ?_ _)); exact BK234.out) hb); have n1_ := Aside0.mk (below_step (by repeat (first | (with_reducible first | exact HB.out | apply below_alloc | apply pw_below_drewN | apply below_drew1 | refine below_set ?_ GE234.out) | exact HB.out)) hb); clear BK234; clear HB; have BK234 := n0_; have HB := n1_; clear n0_ n1_; (try clear hb); (try clear hb2); (try clear hk); (try clear hi)))
                 go_roundg k2
                 case measure => have := HJ3.out; have := HK2.out; omega
                 case rel => exact ⟨((x10_2 ++ (⟨#[46]⟩ : ByteArray)) ++ t242), (wrap64 (x11_2 + 1)), (by first | rfl | (simp; done) | (simp [*]; done)), (by first | rfl | (simp; done) | (simp [*]; done)), H', ⟨by have := HJ3.out; have := HK2.out; omega⟩, ⟨by (with_reducible repeat (first | refine blk_drewN ?_ _ | refine blk_drew ?_ | refine blk_alloc ?_ _)); exact BK234.out⟩, ⟨by repeat (first | (with_reducible first | exact HB.out | apply below_alloc | apply pw_below_drewN | apply below_drew1 | refine below_set ?_ GE234.out) | exact HB.out)⟩⟩
                ·
                 rw [if_neg c44] at H
                 exact absurd H (by simp)
               ·
                rw [if_neg c42] at H
                exact absurd H (by simp)
              ·
               rw [if_neg c41] at H
               have c41b0 : decide (0 < x11_2) = false := decide_eq_false c41
               clear c41
               replace H := Option.bind_eq_some_iff.mp H
               obtain ⟨t243, A460, H⟩ := H
               replace H : (if x10_2.size + t243.size ≤ 9223372036854775807 then (turnoutref01_Text.l0 k2 a2 t240 (x10_2 ++ t243) (wrap64 (x11_2 + 1))) else (none)) = some (r1, r2) := H
               have A46 := Aside0.mk A460
               clear A460
               by_cases c47 : x10_2.size + t243.size ≤ 9223372036854775807
               ·
                rw [if_pos c47] at H
                have c47b0 := eq_true c47
                have c47b1 : decide (x10_2.size + t243.size ≤ 9223372036854775807) = true := decide_eq_true c47
                try have c47b2 : (9223372036854775807 < x10_2.size + t243.size) = False := eq_false (Nat.not_lt.2 c47)
                have H' := Aside0.mk H
                clear H
                have p39 : 0 ≤ (x11_2 : Int) := of_decide_eq_true (by first | (with_reducible assumption) | assumption)
                have q39 : x11_2 < (t240.size : Int) := of_decide_eq_true (by first | (with_reducible assumption) | assumption)
                have hx39 := bt_at t240 x11_2
                replace p39 := eq_true p39
                replace q39 := eq_true q39
                go_wp2_with (first | ((with_reducible refine gate_callee (f := 47) rfl ?_); refine goesL_ (some 68) rfl rfl Tryd.func47 (by kernel_rfl) rfl #[.agg #[.int .u64 0, .int .u64 (IntKind.u64.wrap (wrap64 (bt t240 x11_2)))], .int .i64 10] rfl (by (try simp only [List.map_toArray, List.map_cons, List.map_nil]); first | done | rfl | (simp only [List.length_drop, List.length_take]; rfl)) ?_; (with_reducible refine (turnoutref01_digits.calls k2 0 (IntKind.u64.wrap (wrap64 (bt t240 x11_2))) 10 t243 _ A46.out).mono ?_); rintro e w48 ⟨rfl, hb⟩; refine ⟨_, rfl, ?_⟩; have n0_ := Aside0.mk (blk_below (g := gb234) (o := .cells #[.int .u64 a0_0, .int .u64 a0_1] 24 (0, 0)) (by (with_reducible repeat (first | refine blk_drewN ?_ _ | refine blk_drew ?_ | refine blk_alloc ?_ _)); exact BK234.out) hb); have n1_ := Aside0.mk (below_step (by repeat (first | (with_reducible first | exact HB.out | apply below_alloc | apply pw_below_drewN | apply below_drew1 | refine below_set ?_ GE234.out) | exact HB.out)) hb); clear BK234; clear HB; have BK234 := n0_; have HB := n1_; clear n0_ n1_; (try clear hb); (try clear hb2); (try clear hk); (try clear hi)))
                go_roundg k2
                case measure => have := HJ3.out; have := HK2.out; omega
                case rel => exact ⟨(x10_2 ++ t243), (wrap64 (x11_2 + 1)), (by first | rfl | (simp; done) | (simp [*]; done)), (by first | rfl | (simp; done) | (simp [*]; done)), H', ⟨by have := HJ3.out; have := HK2.out; omega⟩, ⟨by (with_reducible repeat (first | refine blk_drewN ?_ _ | refine blk_drew ?_ | refine blk_alloc ?_ _)); exact BK234.out⟩, ⟨by repeat (first | (with_reducible first | exact HB.out | apply below_alloc | apply pw_below_drewN | apply below_drew1 | refine below_set ?_ GE234.out) | exact HB.out)⟩⟩
               ·
                rw [if_neg c47] at H
                exact absurd H (by simp)
             ·
              rw [if_neg c40] at H
              have c40b0 : (a2 == 4) = false := beq_eq_false_iff_ne.mpr c40
              have c40b1 : (a2 != 4) = true := bne_iff_ne.mpr c40
              by_cases c49 : x11_2 > 0
              ·
               rw [if_pos c49] at H
               have c49b0 : decide (0 < x11_2) = true := decide_eq_true c49
               clear c49
               by_cases c50 : x10_2.size + 1 ≤ 9223372036854775807
               ·
                rw [if_pos c50] at H
                have c50b0 := eq_true c50
                have c50b1 : decide (x10_2.size + 1 ≤ 9223372036854775807) = true := decide_eq_true c50
                try have c50b2 : (9223372036854775807 < x10_2.size + 1) = False := eq_false (Nat.not_lt.2 c50)
                replace H := Option.bind_eq_some_iff.mp H
                obtain ⟨t244, A510, H⟩ := H
                replace H : ((turnoutref01_sign.f (Int.tmod (wrap64 (bt t240 x11_2)) 16)).bind fun t245 => ((some (([t244, t245] : List Int) : List Int)).bind fun y246 => (if (x10_2 ++ (⟨#[58]⟩ : ByteArray)).size + (strOfNums y246).size ≤ 9223372036854775807 then (turnoutref01_Text.l0 k2 a2 t240 ((x10_2 ++ (⟨#[58]⟩ : ByteArray)) ++ (strOfNums y246)) (wrap64 (x11_2 + 1))) else (none)))) = some (r1, r2) := H
                have A51 := Aside0.mk A510
                clear A510
                replace H := Option.bind_eq_some_iff.mp H
                obtain ⟨t245, A520, H⟩ := H
                replace H : ((some (([t244, t245] : List Int) : List Int)).bind fun y246 => (if (x10_2 ++ (⟨#[58]⟩ : ByteArray)).size + (strOfNums y246).size ≤ 9223372036854775807 then (turnoutref01_Text.l0 k2 a2 t240 ((x10_2 ++ (⟨#[58]⟩ : ByteArray)) ++ (strOfNums y246)) (wrap64 (x11_2 + 1))) else (none))) = some (r1, r2) := H
                have A52 := Aside0.mk A520
                clear A520
                obtain ⟨y246, hy246⟩ : ∃ y_ : List Int, y_ = (([t244, t245] : List Int)) := ⟨_, rfl⟩
                replace H : (if (x10_2 ++ (⟨#[58]⟩ : ByteArray)).size + (strOfNums y246).size ≤ 9223372036854775807 then (turnoutref01_Text.l0 k2 a2 t240 ((x10_2 ++ (⟨#[58]⟩ : ByteArray)) ++ (strOfNums y246)) (wrap64 (x11_2 + 1))) else (none)) = some (r1, r2) := by first | (rw [hy246]; with_reducible exact H) | (have H2_ := (Option.bind_some _ _).symm.trans H; rw [hy246]; with_reducible exact H2_) | (have H2_ := (Option.bind_some _ _).symm.trans H; with_reducible exact H2_) | with_reducible exact H | (rw [hy246]; exact H) | exact H
                have Ny246 := Aside0.mk hy246
                clear hy246
                by_cases c53 : (x10_2 ++ (⟨#[58]⟩ : ByteArray)).size + (strOfNums y246).size ≤ 9223372036854775807
                ·
                 rw [if_pos c53] at H
                 have c53b0 := eq_true c53
                 have c53b1 : decide ((x10_2 ++ (⟨#[58]⟩ : ByteArray)).size + (strOfNums y246).size ≤ 9223372036854775807) = true := decide_eq_true c53
                 try have c53b2 : (9223372036854775807 < (x10_2 ++ (⟨#[58]⟩ : ByteArray)).size + (strOfNums y246).size) = False := eq_false (Nat.not_lt.2 c53)
                 try have c53b3 : (9223372036854775807 < x10_2.size + 1 + (strOfNums y246).size) = False := eq_false (by have z_ := c53; simp only [ByteArray.size_append] at z_; have l0_ : (⟨#[58]⟩ : ByteArray).size = 1 := rfl; omega)
                 try have c53b4 : decide (x10_2.size + 1 + (strOfNums y246).size ≤ 9223372036854775807) = true := decide_eq_true (by have z_ := c53; simp only [ByteArray.size_append] at z_; have l0_ : (⟨#[58]⟩ : ByteArray).size = 1 := rfl; omega)
                 have H' := Aside0.mk H
                 clear H
                 have p39 : 0 ≤ (x11_2 : Int) := of_decide_eq_true (by first | (with_reducible assumption) | assumption)
                 have q39 : x11_2 < (t240.size : Int) := of_decide_eq_true (by first | (with_reducible assumption) | assumption)
                 have hx39 := bt_at t240 x11_2
                 replace p39 := eq_true p39
                 replace q39 := eq_true q39
                 go_wp2_with (first | ((with_reducible refine gate_callee (f := 49) rfl ?_); refine goesL_ (some 77) rfl rfl Tryd.func49 (by kernel_rfl) rfl #[.int .i64 (wrap64 (Int.tdiv (wrap64 (bt t240 x11_2)) 16))] rfl (by (try simp only [List.map_toArray, List.map_cons, List.map_nil]); first | done | rfl | (simp only [List.length_drop, List.length_take]; rfl)) ?_; (with_reducible refine (turnoutref01_sign.calls (wrap64 (Int.tdiv (wrap64 (bt t240 x11_2)) 16)) t244 _ A51.out).mono ?_); rintro e w' ⟨rfl, ⟨nd, rfl⟩⟩; refine ⟨_, rfl, ?_⟩) | ((with_reducible refine gate_callee (f := 49) rfl ?_); refine goesL_ (some 80) rfl rfl Tryd.func49 (by kernel_rfl) rfl #[.int .i64 (Int.tmod (wrap64 (bt t240 x11_2)) 16)] rfl (by (try simp only [List.map_toArray, List.map_cons, List.map_nil]); first | done | rfl | (simp only [List.length_drop, List.length_take]; rfl)) ?_; (with_reducible refine (turnoutref01_sign.calls (Int.tmod (wrap64 (bt t240 x11_2)) 16) t245 _ A52.out).mono ?_); rintro e w' ⟨rfl, ⟨nd, rfl⟩⟩; refine ⟨_, rfl, ?_⟩) | ((with_reducible refine gate_dst (N := 81) rfl ?_); refine Kd.R_lit (Kd.int .u8) _ 5 ?hg (N := 81) ?hd (xs := ([t244, t245] : List Int)) (inner := [.int .u8 t244, .int .u8 t245]) (ok := fun _ => True) (okp := fun _ => True) ?hr ?hp (fun _ hk => hk) trivial (Below.refl _ _) (Nat.le_refl _) (by simp) ?_; (case hd => rfl); (case hg => rfl); (case hr => first | (go_simp; done) | (go_simp; rfl)); (case hp => exact (Reps.one (show Kd.M (Kd.int .u8) _ _ _ t244 [.int .u8 t244] from rfl) (Reps.one (show Kd.M (Kd.int .u8) _ _ _ t245 [.int .u8 t245] from rfl) (Reps.none _ _)))); intro v247 w54 ho55 hb hg_ hnew_; clear hg_ hnew_; (first | rw [← Ny246.out] at ho55 | (simp only [Int.reduceToNat] at ho55; rw [← Ny246.out] at ho55)); have n0_ := Aside0.mk (Kd.R_lower ho55 (below_size (by repeat (first | (with_reducible first | exact HB.out | apply below_alloc | apply pw_below_drewN | apply below_drew1 | refine below_set ?_ GE234.out) | exact HB.out)))); have n1_ := Aside0.mk (blk_below (g := gb234) (o := .cells #[.int .u64 a0_0, .int .u64 a0_1] 24 (0, 0)) (by (with_reducible repeat (first | refine blk_drewN ?_ _ | refine blk_drew ?_ | refine blk_alloc ?_ _)); exact BK234.out) hb); have n2_ := Aside0.mk (below_step (by repeat (first | (with_reducible first | exact HB.out | apply below_alloc | apply pw_below_drewN | apply below_drew1 | refine below_set ?_ GE234.out) | exact HB.out)) hb); clear BK234; clear HB; have HO248 := n0_; have BK234 := n1_; have HB := n2_; clear n0_ n1_ n2_; clear hb ho55; have hcv56 := own_string (P := Tryd.prog) Tryd.underlying50 Tryd.underlying5 Tryd.underlying9 (Kd.own_of_R HO248.out)))
                 go_roundg k2
                 case measure => have := HJ3.out; have := HK2.out; omega
                 case rel => exact ⟨((x10_2 ++ (⟨#[58]⟩ : ByteArray)) ++ (strOfNums y246)), (wrap64 (x11_2 + 1)), (by first | rfl | (simp; done) | (simp [*]; done)), (by first | rfl | (simp; done) | (simp [*]; done)), H', ⟨by have := HJ3.out; have := HK2.out; omega⟩, ⟨by (with_reducible repeat (first | refine blk_drewN ?_ _ | refine blk_drew ?_ | refine blk_alloc ?_ _)); exact BK234.out⟩, ⟨by repeat (first | (with_reducible first | exact HB.out | apply below_alloc | apply pw_below_drewN | apply below_drew1 | refine below_set ?_ GE234.out) | exact HB.out)⟩⟩
                ·
                 rw [if_neg c53] at H
                 exact absurd H (by simp)
               ·
                rw [if_neg c50] at H
                exact absurd H (by simp)
              ·
               rw [if_neg c49] at H
               have c49b0 : decide (0 < x11_2) = false := decide_eq_false c49
               clear c49
               replace H := Option.bind_eq_some_iff.mp H
               obtain ⟨t249, A570, H⟩ := H
               replace H : ((turnoutref01_sign.f (Int.tmod (wrap64 (bt t240 x11_2)) 16)).bind fun t250 => ((some (([t249, t250] : List Int) : List Int)).bind fun y251 => (if x10_2.size + (strOfNums y251).size ≤ 9223372036854775807 then (turnoutref01_Text.l0 k2 a2 t240 (x10_2 ++ (strOfNums y251)) (wrap64 (x11_2 + 1))) else (none)))) = some (r1, r2) := H
               have A57 := Aside0.mk A570
               clear A570
               replace H := Option.bind_eq_some_iff.mp H
               obtain ⟨t250, A580, H⟩ := H
               replace H : ((some (([t249, t250] : List Int) : List Int)).bind fun y251 => (if x10_2.size + (strOfNums y251).size ≤ 9223372036854775807 then (turnoutref01_Text.l0 k2 a2 t240 (x10_2 ++ (strOfNums y251)) (wrap64 (x11_2 + 1))) else (none))) = some (r1, r2) := H
               have A58 := Aside0.mk A580
               clear A580
               obtain ⟨y251, hy251⟩ : ∃ y_ : List Int, y_ = (([t249, t250] : List Int)) := ⟨_, rfl⟩
               replace H : (if x10_2.size + (strOfNums y251).size ≤ 9223372036854775807 then (turnoutref01_Text.l0 k2 a2 t240 (x10_2 ++ (strOfNums y251)) (wrap64 (x11_2 + 1))) else (none)) = some (r1, r2) := by first | (rw [hy251]; with_reducible exact H) | (have H2_ := (Option.bind_some _ _).symm.trans H; rw [hy251]; with_reducible exact H2_) | (have H2_ := (Option.bind_some _ _).symm.trans H; with_reducible exact H2_) | with_reducible exact H | (rw [hy251]; exact H) | exact H
               have Ny251 := Aside0.mk hy251
               clear hy251
               by_cases c59 : x10_2.size + (strOfNums y251).size ≤ 9223372036854775807
               ·
                rw [if_pos c59] at H
                have c59b0 := eq_true c59
                have c59b1 : decide (x10_2.size + (strOfNums y251).size ≤ 9223372036854775807) = true := decide_eq_true c59
                try have c59b2 : (9223372036854775807 < x10_2.size + (strOfNums y251).size) = False := eq_false (Nat.not_lt.2 c59)
                have H' := Aside0.mk H
                clear H
                have p39 : 0 ≤ (x11_2 : Int) := of_decide_eq_true (by first | (with_reducible assumption) | assumption)
                have q39 : x11_2 < (t240.size : Int) := of_decide_eq_true (by first | (with_reducible assumption) | assumption)
                have hx39 := bt_at t240 x11_2
                replace p39 := eq_true p39
                replace q39 := eq_true q39
                go_wp2_with (first | ((with_reducible refine gate_callee (f := 49) rfl ?_); refine goesL_ (some 77) rfl rfl Tryd.func49 (by kernel_rfl) rfl #[.int .i64 (wrap64 (Int.tdiv (wrap64 (bt t240 x11_2)) 16))] rfl (by (try simp only [List.map_toArray, List.map_cons, List.map_nil]); first | done | rfl | (simp only [List.length_drop, List.length_take]; rfl)) ?_; (with_reducible refine (turnoutref01_sign.calls (wrap64 (Int.tdiv (wrap64 (bt t240 x11_2)) 16)) t249 _ A57.out).mono ?_); rintro e w' ⟨rfl, ⟨nd, rfl⟩⟩; refine ⟨_, rfl, ?_⟩) | ((with_reducible refine gate_callee (f := 49) rfl ?_); refine goesL_ (some 80) rfl rfl Tryd.func49 (by kernel_rfl) rfl #[.int .i64 (Int.tmod (wrap64 (bt t240 x11_2)) 16)] rfl (by (try simp only [List.map_toArray, List.map_cons, List.map_nil]); first | done | rfl | (simp only [List.length_drop, List.length_take]; rfl)) ?_; (with_reducible refine (turnoutref01_sign.calls (Int.tmod (wrap64 (bt t240 x11_2)) 16) t250 _ A58.out).mono ?_); rintro e w' ⟨rfl, ⟨nd, rfl⟩⟩; refine ⟨_, rfl, ?_⟩) | ((with_reducible refine gate_dst (N := 81) rfl ?_); refine Kd.R_lit (Kd.int .u8) _ 5 ?hg (N := 81) ?hd (xs := ([t249, t250] : List Int)) (inner := [.int .u8 t249, .int .u8 t250]) (ok := fun _ => True) (okp := fun _ => True) ?hr ?hp (fun _ hk => hk) trivial (Below.refl _ _) (Nat.le_refl _) (by simp) ?_; (case hd => rfl); (case hg => rfl); (case hr => first | (go_simp; done) | (go_simp; rfl)); (case hp => exact (Reps.one (show Kd.M (Kd.int .u8) _ _ _ t249 [.int .u8 t249] from rfl) (Reps.one (show Kd.M (Kd.int .u8) _ _ _ t250 [.int .u8 t250] from rfl) (Reps.none _ _)))); intro v252 w60 ho61 hb hg_ hnew_; clear hg_ hnew_; (first | rw [← Ny251.out] at ho61 | (simp only [Int.reduceToNat] at ho61; rw [← Ny251.out] at ho61)); have n0_ := Aside0.mk (Kd.R_lower ho61 (below_size (by repeat (first | (with_reducible first | exact HB.out | apply below_alloc | apply pw_below_drewN | apply below_drew1 | refine below_set ?_ GE234.out) | exact HB.out)))); have n1_ := Aside0.mk (blk_below (g := gb234) (o := .cells #[.int .u64 a0_0, .int .u64 a0_1] 24 (0, 0)) (by (with_reducible repeat (first | refine blk_drewN ?_ _ | refine blk_drew ?_ | refine blk_alloc ?_ _)); exact BK234.out) hb); have n2_ := Aside0.mk (below_step (by repeat (first | (with_reducible first | exact HB.out | apply below_alloc | apply pw_below_drewN | apply below_drew1 | refine below_set ?_ GE234.out) | exact HB.out)) hb); clear BK234; clear HB; have HO253 := n0_; have BK234 := n1_; have HB := n2_; clear n0_ n1_ n2_; clear hb ho61; have hcv62 := own_string (P := Tryd.prog) Tryd.underlying50 Tryd.underlying5 Tryd.underlying9 (Kd.own_of_R HO253.out)))
                go_roundg k2
                case measure => have := HJ3.out; have := HK2.out; omega
                case rel => exact ⟨(x10_2 ++ (strOfNums y251)), (wrap64 (x11_2 + 1)), (by first | rfl | (simp; done) | (simp [*]; done)), (by first | rfl | (simp; done) | (simp [*]; done)), H', ⟨by have := HJ3.out; have := HK2.out; omega⟩, ⟨by (with_reducible repeat (first | refine blk_drewN ?_ _ | refine blk_drew ?_ | refine blk_alloc ?_ _)); exact BK234.out⟩, ⟨by repeat (first | (with_reducible first | exact HB.out | apply below_alloc | apply pw_below_drewN | apply below_drew1 | refine below_set ?_ GE234.out) | exact HB.out)⟩⟩
               ·
                rw [if_neg c59] at H
                exact absurd H (by simp)
            ·
             rw [if_neg c38] at H
             exact absurd H (by simp)
           ·
            rw [if_neg c37] at H
            have c37b0 : decide (x11_2 < (t240.size : Int)) = false := decide_eq_false c37
            clear c37
            simp only [Option.some.injEq, Prod.mk.injEq] at H
            obtain ⟨rfl, rfl⟩ := H
            go_wp2
            go_ret2
            exact ⟨by first | rfl | (simp [errW_none, errW_some] <;> rfl) | (simp [*, errW_none, errW_some] <;> rfl), by repeat (first | (with_reducible first | exact HB.out | apply below_alloc | apply pw_below_drewN | apply below_drew1 | refine below_set ?_ GE234.out) | exact HB.out)⟩
     ·
      replace c11 := Bool.eq_false_iff.mpr c11
      subst c11
      have H1 : (some ((⟨#[]⟩ : ByteArray), 11)) = some (r1, r2) := by rw [if_neg (show ¬ (false = true) by decide)] at H; exact H
      clear H
      have H := H1
      clear H1
      simp only [Option.some.injEq, Prod.mk.injEq] at H
      obtain ⟨rfl, rfl⟩ := H
      go_wp2_with (first | ((with_reducible refine gate_callee (f := 46) rfl ?_); refine goesL_ (some 21) rfl rfl Tryd.func46 (by kernel_rfl) rfl #[.int .i64 a1, .int .i64 a2] rfl (by (try simp only [List.map_toArray, List.map_cons, List.map_nil]); first | done | rfl | (simp only [List.length_drop, List.length_take]; rfl)) ?_; (with_reducible refine (turnoutref01_Has.calls kj3 a1 a2 true _ A8.out).mono ?_); rintro e w' ⟨rfl, ⟨nd, rfl⟩⟩; refine ⟨_, rfl, ?_⟩; have hcz63_0 : wc.cell? ⟨gb234, 0, none⟩ = some (.int .u64 a0_0) := (blk_cell BK234.out 0).trans rfl; have hcz63_1 : wc.cell? ⟨gb234, 1, none⟩ = some (.int .u64 a0_1) := (blk_cell BK234.out 1).trans rfl; have hfz63_0 := blk_frozen BK234.out 0; have hfz63_1 := blk_frozen BK234.out 1) | ((with_reducible refine gate_callee (f := 27) rfl ?_); refine goesL_ (some 25) rfl rfl Tryd.func27 (by kernel_rfl) rfl #[.agg #[.int .u64 a0_0, .int .u64 a0_1], .int .i64 a1] rfl (by (try simp only [List.map_toArray, List.map_cons, List.map_nil]); first | done | rfl | (simp only [List.length_drop, List.length_take]; rfl)) ?_; (with_reducible refine (turnoutref01_Fits.calls a0_0 a0_1 a1 false _ A10.out).mono ?_); rintro e w64 ⟨rfl, hb⟩; refine ⟨_, rfl, ?_⟩; have n0_ := Aside0.mk (blk_below (g := gb234) (o := .cells #[.int .u64 a0_0, .int .u64 a0_1] 24 (0, 0)) (by (with_reducible repeat (first | refine blk_drewN ?_ _ | refine blk_drew ?_ | refine blk_alloc ?_ _)); exact BK234.out) hb); have n1_ := Aside0.mk (below_step (by repeat (first | (with_reducible first | exact HB.out | apply below_alloc | apply pw_below_drewN | apply below_drew1 | refine below_set ?_ GE234.out) | exact HB.out)) hb); clear BK234; clear HB; have BK234 := n0_; have HB := n1_; clear n0_ n1_; (try clear hb); (try clear hb2); (try clear hk); (try clear hi)))
      go_ret2
      exact ⟨by first | rfl | (simp [errW_none, errW_some] <;> rfl) | (simp [*, errW_none, errW_some] <;> rfl), by repeat (first | (with_reducible first | exact HB.out | apply below_alloc | apply pw_below_drewN | apply below_drew1 | refine below_set ?_ GE234.out) | exact HB.out)⟩
    ·
     replace c9 := Bool.eq_false_iff.mpr c9
     subst c9
     have H1 : (some ((⟨#[]⟩ : ByteArray), 10)) = some (r1, r2) := by rw [if_neg (show ¬ (false = true) by decide)] at H; exact H
     clear H
     have H := H1
     clear H1
     simp only [Option.some.injEq, Prod.mk.injEq] at H
     obtain ⟨rfl, rfl⟩ := H
     go_wp2_with (first | ((with_reducible refine gate_callee (f := 46) rfl ?_); refine goesL_ (some 21) rfl rfl Tryd.func46 (by kernel_rfl) rfl #[.int .i64 a1, .int .i64 a2] rfl (by (try simp only [List.map_toArray, List.map_cons, List.map_nil]); first | done | rfl | (simp only [List.length_drop, List.length_take]; rfl)) ?_; (with_reducible refine (turnoutref01_Has.calls kj3 a1 a2 false _ A8.out).mono ?_); rintro e w' ⟨rfl, ⟨nd, rfl⟩⟩; refine ⟨_, rfl, ?_⟩))
     go_ret2
     exact ⟨by first | rfl | (simp [errW_none, errW_some] <;> rfl) | (simp [*, errW_none, errW_some] <;> rfl), by repeat (first | (with_reducible first | exact HB.out | apply below_alloc | apply pw_below_drewN | apply below_drew1 | refine below_set ?_ GE234.out) | exact HB.out)⟩
def turnoutref01_more.l0 : Nat → Int → Int → Int → Int → Int → Int → Option (Int × Int)
 | 0, _, _, _, _, _, _ => none
 | k + 1, x1, x8, x256000, x256001, x258000, x258001 => if x8 < x1 then ((turnoutref01_Add.f x258000 x258001 x256000 x256001 128).bind fun bt258 => (turnoutref01_more.l0 k x1 (wrap64 (x8 + 1)) x256000 x256001 bt258.1 bt258.2)) else (some (x258000, x258001))
def turnoutref01_more.f (k : Nat) (a0_0 : Int) (a0_1 : Int) (a1 : Int) (a2 : Int) : Option (Int × Int) := turnoutref01_more.l0 k a1 0 a0_0 a0_1 0 (IntKind.u64.wrap (a2))
set_option maxHeartbeats 8000000 in
set_option maxRecDepth 100000 in
theorem turnoutref01_more.calls (k : Nat) (a0_0 : Int) (a0_1 : Int) (a1 : Int) (a2 : Int) (r1 : Int) (r2 : Int) (w : World) (h : turnoutref01_more.f k a0_0 a0_1 a1 a2 = some (r1, r2)) :
  Calls Tryd.prog 75 #[.agg #[.int .u64 a0_0, .int .u64 a0_1], .int .i64 a1, .int .i64 a2] w fun e w' => e = .returned (.agg #[.int .u64 r1, .int .u64 r2]) ∧ Below w.heap.size w w' := by
 have hu24 := Tryd.underlying24
 have HB := Aside0.mk (Below.refl w.heap.size w)
 have H : (turnoutref01_more.l0 k a1 0 a0_0 a0_1 0 (IntKind.u64.wrap (a2))) = some (r1, r2) := h
 clear h
 have H' := Aside0.mk H
 clear H
 go_enter Tryd.func75, Tryd.ntmps75
 go_wp2_with (first | ((with_reducible refine gate_dst (N := 3) rfl ?_); refine box_event ?hg (N := 3) ?hd (cs := #[.int .u64 a0_0, .int .u64 a0_1]) (t := 24) ?hr ?_; (case hd => rfl); (case hg => rfl); (case hr => first | (go_simp; done) | (go_simp; rfl)); intro gb255 hg w4 hbox hb; have n0_ := Aside0.mk (below_step (by repeat (first | (with_reducible first | exact HB.out | apply below_alloc | apply pw_below_drewN | apply below_drew1) | exact HB.out)) hb); have n1_ := Aside0.mk (hbox); have n2_ := Aside0.mk ((by rw [hg]; exact (below_size (by repeat (first | (with_reducible first | exact HB.out | apply below_alloc | apply pw_below_drewN | apply below_drew1) | exact HB.out))) : w.heap.size ≤ gb255)); have n3_ := Aside0.mk ((by rw [hg]; exact (below_size (by repeat (first | (with_reducible first | exact HB.out | apply below_alloc | apply pw_below_drewN | apply below_drew1) | exact HB.out))) : w.heap.size ≤ gb255)); clear HB; have HB := n0_; have BK255 := n1_; have GW255 := n2_; have GE255 := n3_; clear n0_ n1_ n2_ n3_; clear hb hbox hg) | ((with_reducible refine gate_dst (N := 6) rfl ?_); refine box_event ?hg (N := 6) ?hd (cs := #[.int .u64 0, .int .u64 0]) (t := 24) ?hr ?_; (case hd => rfl); (case hg => rfl); (case hr => first | (go_simp; done) | (go_simp; rfl)); intro gb256 hg w5 hbox hb; have n0_ := Aside0.mk (blk_below (g := gb255) (o := .cells #[.int .u64 a0_0, .int .u64 a0_1] 24 (0, 0)) (by (with_reducible repeat (first | refine blk_drewN ?_ _ | refine blk_drew ?_ | refine blk_alloc ?_ _)); exact BK255.out) hb); have n1_ := Aside0.mk (below_step (by repeat (first | (with_reducible first | exact HB.out | apply below_alloc | apply pw_below_drewN | apply below_drew1 | refine below_set ?_ GE255.out) | exact HB.out)) hb); have n2_ := Aside0.mk (hbox); have n3_ := Aside0.mk ((by rw [hg]; exact (below_size (by repeat (first | (with_reducible first | exact HB.out | apply below_alloc | apply pw_below_drewN | apply below_drew1 | refine below_set ?_ GE255.out) | exact HB.out))) : w.heap.size ≤ gb256)); have n4_ := Aside0.mk ((by rw [hg]; exact (below_size (by repeat (first | (with_reducible first | exact HB.out | apply below_alloc | apply pw_below_drewN | apply below_drew1 | refine below_set ?_ GE255.out) | exact HB.out))) : w.heap.size ≤ gb256)); have n5_ := Aside0.mk ((by rw [hg]; exact Nat.ne_of_lt (blk_lt (g := gb255) (o := .cells #[.int .u64 a0_0, .int .u64 a0_1] 24 (0, 0)) (by (with_reducible repeat (first | refine blk_drewN ?_ _ | refine blk_drew ?_ | refine blk_alloc ?_ _)); exact BK255.out)) : gb255 ≠ gb256)); have n6_ := Aside0.mk ((by rw [hg]; exact Nat.ne_of_gt (blk_lt (g := gb255) (o := .cells #[.int .u64 a0_0, .int .u64 a0_1] 24 (0, 0)) (by (with_reducible repeat (first | refine blk_drewN ?_ _ | refine blk_drew ?_ | refine blk_alloc ?_ _)); exact BK255.out)) : gb256 ≠ gb255)); clear BK255; clear HB; have BK255 := n0_; have HB := n1_; have BK256 := n2_; have GW256 := n3_; have GE256 := n4_; have NB255_256 := n5_; have NB256_255 := n6_; clear n0_ n1_ n2_ n3_ n4_ n5_ n6_; clear hb hbox hg) | ((with_reducible refine gate_dst (N := 7) rfl ?_); refine box_event ?hg (N := 7) ?hd (cs := #[.int .u64 0, .int .u64 0]) (t := 24) ?hr ?_; (case hd => rfl); (case hg => rfl); (case hr => first | (go_simp; done) | (go_simp; rfl)); intro gb257 hg w6 hbox hb; have n0_ := Aside0.mk (blk_below (g := gb255) (o := .cells #[.int .u64 a0_0, .int .u64 a0_1] 24 (0, 0)) (by (with_reducible repeat (first | refine blk_drewN ?_ _ | refine blk_drew ?_ | refine blk_alloc ?_ _)); exact BK255.out) hb); have n1_ := Aside0.mk (blk_below (g := gb256) (o := .cells #[.int .u64 0, .int .u64 0] 24 (0, 0)) (by (with_reducible repeat (first | refine blk_drewN ?_ _ | refine blk_drew ?_ | refine blk_alloc ?_ _)); exact BK256.out) hb); have n2_ := Aside0.mk (below_step (by repeat (first | (with_reducible first | exact HB.out | apply below_alloc | apply pw_below_drewN | apply below_drew1 | refine below_set ?_ GE255.out | refine below_set ?_ GE256.out) | exact HB.out)) hb); have n3_ := Aside0.mk (hbox); have n4_ := Aside0.mk ((by rw [hg]; exact (below_size (by repeat (first | (with_reducible first | exact HB.out | apply below_alloc | apply pw_below_drewN | apply below_drew1 | refine below_set ?_ GE255.out | refine below_set ?_ GE256.out) | exact HB.out))) : w.heap.size ≤ gb257)); have n5_ := Aside0.mk ((by rw [hg]; exact (below_size (by repeat (first | (with_reducible first | exact HB.out | apply below_alloc | apply pw_below_drewN | apply below_drew1 | refine below_set ?_ GE255.out | refine below_set ?_ GE256.out) | exact HB.out))) : w.heap.size ≤ gb257)); have n6_ := Aside0.mk ((by rw [hg]; exact Nat.ne_of_lt (blk_lt (g := gb255) (o := .cells #[.int .u64 a0_0, .int .u64 a0_1] 24 (0, 0)) (by (with_reducible repeat (first | refine blk_drewN ?_ _ | refine blk_drew ?_ | refine blk_alloc ?_ _)); exact BK255.out)) : gb255 ≠ gb257)); have n7_ := Aside0.mk ((by rw [hg]; exact Nat.ne_of_gt (blk_lt (g := gb255) (o := .cells #[.int .u64 a0_0, .int .u64 a0_1] 24 (0, 0)) (by (with_reducible repeat (first | refine blk_drewN ?_ _ | refine blk_drew ?_ | refine blk_alloc ?_ _)); exact BK255.out)) : gb257 ≠ gb255)); have n8_ := Aside0.mk ((by rw [hg]; exact Nat.ne_of_lt (blk_lt (g := gb256) (o := .cells #[.int .u64 0, .int .u64 0] 24 (0, 0)) (by (with_reducible repeat (first | refine blk_drewN ?_ _ | refine blk_drew ?_ | refine blk_alloc ?_ _)); exact BK256.out)) : gb256 ≠ gb257)); have n9_ := Aside0.mk ((by rw [hg]; exact Nat.ne_of_gt (blk_lt (g := gb256) (o := .cells #[.int .u64 0, .int .u64 0] 24 (0, 0)) (by (with_reducible repeat (first | refine blk_drewN ?_ _ | refine blk_drew ?_ | refine blk_alloc ?_ _)); exact BK256.out)) : gb257 ≠ gb256)); clear BK255; clear BK256; clear HB; have BK255 := n0_; have BK256 := n1_; have HB := n2_; have BK257 := n3_; have GW257 := n4_; have GE257 := n5_; have NB255_257 := n6_; have NB257_255 := n7_; have NB256_257 := n8_; have NB257_256 := n9_; clear n0_ n1_ n2_ n3_ n4_ n5_ n6_ n7_ n8_ n9_; clear hb hbox hg; have hnb7 := NB257_255.out; have hnc7 := NB255_257.out; have hnb8 := NB257_256.out; have hnc8 := NB256_257.out; have hcz9_0 : w6.cell? ⟨gb257, 0, none⟩ = some (.int .u64 0) := (blk_cell BK257.out 0).trans rfl; have hcz9_1 : w6.cell? ⟨gb257, 1, none⟩ = some (.int .u64 0) := (blk_cell BK257.out 1).trans rfl; have hfz9_0 := blk_frozen BK257.out 0; have hfz9_1 := blk_frozen BK257.out 1))
 go_loopg [8] k (fun kq v8 w' => ∃ (x8_1 : Int) (x258000_1 : Int) (x258001_1 : Int), v8 = .int .i64 x8_1 ∧ Aside0 (turnoutref01_more.l0 kq a1 x8_1 a0_0 a0_1 x258000_1 x258001_1 = some (r1, r2)) ∧ Aside0 (kq ≤ k) ∧ Aside0 (w'.heap[gb255]? = some (.cells #[.int .u64 a0_0, .int .u64 a0_1] 24 (0, 0))) ∧ Aside0 (w'.heap[gb256]? = some (.cells #[.int .u64 0, .int .u64 0] 24 (0, 0))) ∧ Aside0 (w'.heap[gb257]? = some (.cells #[.int .u64 x258000_1, .int .u64 x258001_1] 24 (0, 0))) ∧ Aside0 (Below w.heap.size w w'))
 case atStart => exact ⟨(0), (0), (IntKind.u64.wrap (a2)), (by first | rfl | (simp; done) | (simp [*]; done)), H', ⟨Nat.le_refl _⟩, ⟨by (with_reducible repeat (first | refine blk_drewN ?_ _ | refine blk_drew ?_ | refine blk_alloc ?_ _)); refine blk_far ?_ NB255_257.out _; (with_reducible repeat (first | refine blk_drewN ?_ _ | refine blk_drew ?_ | refine blk_alloc ?_ _)); refine blk_far ?_ NB255_257.out _; (with_reducible repeat (first | refine blk_drewN ?_ _ | refine blk_drew ?_ | refine blk_alloc ?_ _)); exact BK255.out⟩, ⟨by (with_reducible repeat (first | refine blk_drewN ?_ _ | refine blk_drew ?_ | refine blk_alloc ?_ _)); refine blk_far ?_ NB256_257.out _; (with_reducible repeat (first | refine blk_drewN ?_ _ | refine blk_drew ?_ | refine blk_alloc ?_ _)); refine blk_far ?_ NB256_257.out _; (with_reducible repeat (first | refine blk_drewN ?_ _ | refine blk_drew ?_ | refine blk_alloc ?_ _)); exact BK256.out⟩, ⟨by (with_reducible repeat (first | refine blk_drewN ?_ _ | refine blk_drew ?_ | refine blk_alloc ?_ _)); refine blk_put (cs := #[.int .u64 0, .int .u64 0]) ?_ 1 _ rfl; (with_reducible repeat (first | refine blk_drewN ?_ _ | refine blk_drew ?_ | refine blk_alloc ?_ _)); refine blk_put (cs := #[.int .u64 0, .int .u64 0]) ?_ 0 _ rfl; (with_reducible repeat (first | refine blk_drewN ?_ _ | refine blk_drew ?_ | refine blk_alloc ?_ _)); exact BK257.out⟩, ⟨by repeat (first | (with_reducible first | exact HB.out | apply below_alloc | apply pw_below_drewN | apply below_drew1 | refine below_set ?_ GE255.out | refine below_set ?_ GE256.out | refine below_set ?_ GE257.out) | exact HB.out)⟩⟩
 case round =>
  clear H'
  try clear p2
  try clear c7
  try clear c8
  try clear hcz9_0
  try clear hcz9_1
  try clear hfz9_0
  try clear hfz9_1
  obtain ⟨x8_1, x258000_1, x258001_1, rfl, HA, HK1, BK255, BK256, BK257, HB⟩ := hrel
  cases gk with
  | zero => exact absurd HA.out (by simp [turnoutref01_more.l0])
  | succ k1 =>
   have H := HA.out
   clear HA
   simp only [turnoutref01_more.l0] at H
   by_cases c10 : x8_1 < a1
   ·
    rw [if_pos c10] at H
    have c10b0 : decide (x8_1 < a1) = true := decide_eq_true c10
    clear c10
    replace H := Option.bind_eq_some_iff.mp H
    obtain ⟨⟨t258, t259⟩, A110, H⟩ := H
    replace H : (turnoutref01_more.l0 k1 a1 (wrap64 (x8_1 + 1)) a0_0 a0_1 t258 t259) = some (r1, r2) := H
    have A11 := Aside0.mk A110
    clear A110
    have H' := Aside0.mk H
    clear H
    have hnb12 := NB257_255.out
    have hnc12 := NB255_257.out
    have hnb13 := NB257_256.out
    have hnc13 := NB256_257.out
    have hcz14_0 : wr.cell? ⟨gb257, 0, none⟩ = some (.int .u64 x258000_1) := (blk_cell BK257.out 0).trans rfl
    have hcz14_1 : wr.cell? ⟨gb257, 1, none⟩ = some (.int .u64 x258001_1) := (blk_cell BK257.out 1).trans rfl
    have hfz14_0 := blk_frozen BK257.out 0
    have hfz14_1 := blk_frozen BK257.out 1
    have hnb15 := NB255_256.out
    have hnc15 := NB256_255.out
    have hcz16_0 : wr.cell? ⟨gb255, 0, none⟩ = some (.int .u64 a0_0) := (blk_cell BK255.out 0).trans rfl
    have hcz16_1 : wr.cell? ⟨gb255, 1, none⟩ = some (.int .u64 a0_1) := (blk_cell BK255.out 1).trans rfl
    have hfz16_0 := blk_frozen BK255.out 0
    have hfz16_1 := blk_frozen BK255.out 1
    go_wp2_with (first | ((with_reducible refine gate_callee (f := 35) rfl ?_); refine goesL_ (some 19) rfl rfl Tryd.func35 (by kernel_rfl) rfl #[.agg #[.int .u64 x258000_1, .int .u64 x258001_1], .agg #[.int .u64 a0_0, .int .u64 a0_1], .int .i64 128] rfl (by (try simp only [List.map_toArray, List.map_cons, List.map_nil]); first | done | rfl | (simp only [List.length_drop, List.length_take]; rfl)) ?_; (with_reducible refine (turnoutref01_Add.calls x258000_1 x258001_1 a0_0 a0_1 128 t258 t259 _ A11.out).mono ?_); rintro e w17 ⟨rfl, hb⟩; refine ⟨_, rfl, ?_⟩; have n0_ := Aside0.mk (blk_below (g := gb255) (o := .cells #[.int .u64 a0_0, .int .u64 a0_1] 24 (0, 0)) (by (with_reducible repeat (first | refine blk_drewN ?_ _ | refine blk_drew ?_ | refine blk_alloc ?_ _)); exact BK255.out) hb); have n1_ := Aside0.mk (blk_below (g := gb256) (o := .cells #[.int .u64 0, .int .u64 0] 24 (0, 0)) (by (with_reducible repeat (first | refine blk_drewN ?_ _ | refine blk_drew ?_ | refine blk_alloc ?_ _)); exact BK256.out) hb); have n2_ := Aside0.mk (blk_below (g := gb257) (o := .cells #[.int .u64 x258000_1, .int .u64 x258001_1] 24 (0, 0)) (by (with_reducible repeat (first | refine blk_drewN ?_ _ | refine blk_drew ?_ | refine blk_alloc ?_ _)); exact BK257.out) hb); have n3_ := Aside0.mk (below_step (by repeat (first | (with_reducible first | exact HB.out | apply below_alloc | apply pw_below_drewN | apply below_drew1 | refine below_set ?_ GE255.out | refine below_set ?_ GE256.out | refine below_set ?_ GE257.out) | exact HB.out)) hb); clear BK255; clear BK256; clear BK257; clear HB; have BK255 := n0_; have BK256 := n1_; have BK257 := n2_; have HB := n3_; clear n0_ n1_ n2_ n3_; (try clear hb); (try clear hb2); (try clear hk); (try clear hi); have hcz18_0 : w17.cell? ⟨gb257, 0, none⟩ = some (.int .u64 x258000_1) := (blk_cell BK257.out 0).trans rfl; have hcz18_1 : w17.cell? ⟨gb257, 1, none⟩ = some (.int .u64 x258001_1) := (blk_cell BK257.out 1).trans rfl; have hfz18_0 := blk_frozen BK257.out 0; have hfz18_1 := blk_frozen BK257.out 1))
    go_roundg k1
    case measure => have := HK1.out; omega
    case rel => exact ⟨(wrap64 (x8_1 + 1)), (t258), (t259), (by first | rfl | (simp; done) | (simp [*]; done)), H', ⟨by have := HK1.out; omega⟩, ⟨by (with_reducible repeat (first | refine blk_drewN ?_ _ | refine blk_drew ?_ | refine blk_alloc ?_ _)); refine blk_far ?_ NB255_257.out _; (with_reducible repeat (first | refine blk_drewN ?_ _ | refine blk_drew ?_ | refine blk_alloc ?_ _)); refine blk_far ?_ NB255_257.out _; (with_reducible repeat (first | refine blk_drewN ?_ _ | refine blk_drew ?_ | refine blk_alloc ?_ _)); exact BK255.out⟩, ⟨by (with_reducible repeat (first | refine blk_drewN ?_ _ | refine blk_drew ?_ | refine blk_alloc ?_ _)); refine blk_far ?_ NB256_257.out _; (with_reducible repeat (first | refine blk_drewN ?_ _ | refine blk_drew ?_ | refine blk_alloc ?_ _)); refine blk_far ?_ NB256_257.out _; (with_reducible repeat (first | refine blk_drewN ?_ _ | refine blk_drew ?_ | refine blk_alloc ?_ _)); exact BK256.out⟩, ⟨by (with_reducible repeat (first | refine blk_drewN ?_ _ | refine blk_drew ?_ | refine blk_alloc ?_ _)); refine blk_put (cs := #[.int .u64 t258, .int .u64 x258001_1]) ?_ 1 _ rfl; (with_reducible repeat (first | refine blk_drewN ?_ _ | refine blk_drew ?_ | refine blk_alloc ?_ _)); refine blk_put (cs := #[.int .u64 x258000_1, .int .u64 x258001_1]) ?_ 0 _ rfl; (with_reducible repeat (first | refine blk_drewN ?_ _ | refine blk_drew ?_ | refine blk_alloc ?_ _)); exact BK257.out⟩, ⟨by repeat (first | (with_reducible first | exact HB.out | apply below_alloc | apply pw_below_drewN | apply below_drew1 | refine below_set ?_ GE255.out | refine below_set ?_ GE256.out | refine below_set ?_ GE257.out) | exact HB.out)⟩⟩
   ·
    rw [if_neg c10] at H
    have c10b0 : decide (x8_1 < a1) = false := decide_eq_false c10
    clear c10
    simp only [Option.some.injEq, Prod.mk.injEq] at H
    obtain ⟨rfl, rfl⟩ := H
    have hnb19 := NB257_255.out
    have hnc19 := NB255_257.out
    have hnb20 := NB257_256.out
    have hnc20 := NB256_257.out
    have hcz21_0 : wr.cell? ⟨gb257, 0, none⟩ = some (.int .u64 x258000_1) := (blk_cell BK257.out 0).trans rfl
    have hcz21_1 : wr.cell? ⟨gb257, 1, none⟩ = some (.int .u64 x258001_1) := (blk_cell BK257.out 1).trans rfl
    have hfz21_0 := blk_frozen BK257.out 0
    have hfz21_1 := blk_frozen BK257.out 1
    have hnb22 := NB256_255.out
    have hnc22 := NB255_256.out
    have hcz23_0 : wr.cell? ⟨gb256, 0, none⟩ = some (.int .u64 0) := (blk_cell BK256.out 0).trans rfl
    have hcz23_1 : wr.cell? ⟨gb256, 1, none⟩ = some (.int .u64 0) := (blk_cell BK256.out 1).trans rfl
    have hfz23_0 := blk_frozen BK256.out 0
    have hfz23_1 := blk_frozen BK256.out 1
    go_wp2
    refine bodyPost_ret (results_cell_row rfl _ _ gb256 24 #[.int .u64 x258000_1, .int .u64 x258001_1] (0, 0) _ rfl (by (with_reducible repeat (first | refine blk_drewN ?_ _ | refine blk_drew ?_ | refine blk_alloc ?_ _)); refine blk_put (cs := #[.int .u64 x258000_1, .int .u64 0]) ?_ 1 _ rfl; (with_reducible repeat (first | refine blk_drewN ?_ _ | refine blk_drew ?_ | refine blk_alloc ?_ _)); refine blk_put (cs := #[.int .u64 0, .int .u64 0]) ?_ 0 _ rfl; (with_reducible repeat (first | refine blk_drewN ?_ _ | refine blk_drew ?_ | refine blk_alloc ?_ _)); exact BK256.out) Tryd.underlying24 rfl (by kernel_rfl)) rfl ?_
    exact ⟨by first | rfl | (simp [errW_none, errW_some] <;> rfl) | (simp [*, errW_none, errW_some] <;> rfl), by repeat (first | (with_reducible first | exact HB.out | apply below_alloc | apply pw_below_drewN | apply below_drew1 | refine below_set ?_ GE255.out | refine below_set ?_ GE256.out | refine below_set ?_ GE257.out) | exact HB.out)⟩
end Go.Proofs.YtofnhgpiipmegaaDoor.PV
