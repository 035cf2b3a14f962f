/- ### turnoutref01_bytes: function 52 -/
import Derived.Test.YtofnhgpiipmegaaDoorPVx0
import Derived.Test.YtofnhgpiipmegaaDoorPVx5
import Derived.Test.YtofnhgpiipmegaaDoorPVx9
import Derived.Test.YtofnhgpiipmegaaDoorHRefAll
-- Printed by this session's gprint.py (the kit's printer, with functions given by hand). Not trusted: Lean checks it.
namespace Go.Proofs.YtofnhgpiipmegaaDoor.PV
open Go.RowKit Go.Proofs.YtofnhgpiipmegaaDoorW.PrintWords Go.Proofs.YtofnhgpiipmegaaDoorW.PrintLast Go.Proofs.YtofnhgpiipmegaaDoorW.PrintMore
attribute [local go_sem] max2_int min2_int max_two min_two max_three min_three max_four min_four   -- for this text's walks alone
set_option linter.unusedVariables false
set_option linter.unusedSimpArgs false
mutual
def turnoutref01_bytes.j0 : Nat → ByteArray → Int → List Int → List ByteArray → Bool → Option (ByteArray × Bool)
 | 0, _, _, _, _, _ => none
 | k + 1, x0, x1, x6, x7, x22 => if x22 = true then (turnoutref01_bytes.l0 k x6 x7 0) else ((turnoutref01_parts.f k x0 58).bind fun t289 => ((turnoutref01_Has.f k x1 5).bind fun t292 => (if t292 = true then (turnoutref01_bytes.j2 k x6 t289 ((t289.length : Int) != (wrap64 (Int.tdiv x1 8)))) else (turnoutref01_bytes.j2 k x6 t289 true))))
def turnoutref01_bytes.l0 : Nat → List Int → List ByteArray → Int → Option (ByteArray × Bool)
 | 0, _, _, _ => none
 | k + 1, x6, x7, x8 => if x8 < 4 then (if 0 ≤ x8 then (if x8 < (x7.length : Int) then ((turnoutref01_number.f k (rdOf ByteArray.empty x7 x8) 10).bind fun bt280 => (if bt280.2.2.2 = true then (if bt280.2.2.1 = true then ((turnoutref01_Compare.f bt280.1 bt280.2.1 0 255).bind fun t285 => (if t285 > 0 then (some ((⟨#[]⟩ : ByteArray), false)) else (if x6.length < 140737488355328 then (turnoutref01_bytes.l0 k (x6 ++ [(bt280.2.1) % 256]) x7 (wrap64 (x8 + 1))) else (none)))) else (some ((⟨#[]⟩ : ByteArray), false))) else (some ((⟨#[]⟩ : ByteArray), false)))) else (none)) else (none)) else (some (strOfNums x6, true))
def turnoutref01_bytes.j2 : Nat → List Int → List ByteArray → Bool → Option (ByteArray × Bool)
 | 0, _, _, _ => none
 | k + 1, x6, x12, x67 => if x67 = true then (some ((⟨#[]⟩ : ByteArray), false)) else (turnoutref01_bytes.l1 k x6 x12 0)
def turnoutref01_bytes.l1 : Nat → List Int → List ByteArray → Int → Option (ByteArray × Bool)
 | 0, _, _, _ => none
 | k + 1, x6, x12, x13 => if x13 < (x12.length : Int) then (if 0 ≤ x13 then (if ((rdOf ByteArray.empty x12 x13).size : Int) = 2 then (if 0 < ((rdOf ByteArray.empty x12 x13).size : Int) then ((turnoutref01_worth.f k (bt (rdOf ByteArray.empty x12 x13) 0) 16).bind fun t295 => (if t295 < 0 then (turnoutref01_bytes.j4 k x6 x12 x13 true) else (if 1 < ((rdOf ByteArray.empty x12 x13).size : Int) then ((turnoutref01_worth.f k (bt (rdOf ByteArray.empty x12 x13) 1) 16).bind fun t297 => (turnoutref01_bytes.j4 k x6 x12 x13 (decide (t297 < 0)))) else (none)))) else (none)) else (turnoutref01_bytes.j4 k x6 x12 x13 true)) else (none)) else (some (strOfNums x6, true))
def turnoutref01_bytes.j4 : Nat → List Int → List ByteArray → Int → Bool → Option (ByteArray × Bool)
 | 0, _, _, _, _ => none
 | k + 1, x6, x12, x13, x97 => if x97 = true then (some ((⟨#[]⟩ : ByteArray), false)) else (if 0 ≤ x13 then (if x13 < (x12.length : Int) then (if 0 < ((rdOf ByteArray.empty x12 x13).size : Int) then ((turnoutref01_worth.f k (bt (rdOf ByteArray.empty x12 x13) 0) 16).bind fun t299 => (if 1 < ((rdOf ByteArray.empty x12 x13).size : Int) then ((turnoutref01_worth.f k (bt (rdOf ByteArray.empty x12 x13) 1) 16).bind fun t301 => (if x6.length < 140737488355328 then (turnoutref01_bytes.l1 k (x6 ++ [(wrap64 ((wrap64 (16 * t299)) + t301)) % 256]) x12 (wrap64 (x13 + 1))) else (none))) else (none))) else (none)) else (none)) else (none))
end
def turnoutref01_bytes.f (k : Nat) (a0 : ByteArray) (a1 : Int) : Option (ByteArray × Bool) := (turnoutref01_parts.f k a0 46).bind fun t276 => (if (t276.length : Int) = 4 then (turnoutref01_bytes.j0 k a0 a1 ([] : List Int) t276 (a1 == 32)) else (turnoutref01_bytes.j0 k a0 a1 ([] : List Int) t276 false))
def turnoutref01_bytes.T20 : Bool × List (List Nat × List Nat) := (true, [([], []), ([], []), ([], []), ([1, 2], [1, 2]), ([3], [3]), ([4], [4]), ([5], [5]), ([6], [6]), ([], []), ([], []), ([8, 9], [8, 9]), ([10], [10]), ([11], [11]), ([12, 6], [12]), ([7, 13], [7, 13]), ([14], [14]), ([15], [15]), ([0, 16, 13], [0, 16]), ([17, 17, 0, 1, 2, 3, 4, 5, 6, 7, 8, 9, 10, 11, 12, 13, 14, 15, 16, 17], [0, 17])])
def turnoutref01_bytes.B20 : List Nat := [0, 0, 0, 6, 14, 30, 62, 126, 0, 0, 768, 1792, 3840, 8062, 16382, 32766, 65534, 131071, 262143]
theorem turnoutref01_bytes.tab20 : rtab .any (opsOf Tryd.f52 20) = turnoutref01_bytes.T20 := by kernel_rfl
theorem turnoutref01_bytes.bits20 : waitsOk turnoutref01_bytes.T20.2 turnoutref01_bytes.B20 = true := by kernel_rfl
set_option maxHeartbeats 8000000 in
set_option maxRecDepth 100000 in
theorem turnoutref01_bytes.calls (k : Nat) (a0 : ByteArray) (a1 : Int) (r1 : ByteArray) (r2 : Bool) (w : World) (h : turnoutref01_bytes.f k a0 a1 = some (r1, r2)) :
  Calls Tryd.prog 52 #[.string a0, .int .i64 a1] w fun e w' => e = .returned (.tuple #[.string r1, .bool r2]) ∧ Below w.heap.size w w' := by
 have hu24 := Tryd.underlying24
 have HB := Aside0.mk (Below.refl w.heap.size w)
 have H : ((turnoutref01_parts.f k a0 46).bind fun t276 => (if (t276.length : Int) = 4 then (turnoutref01_bytes.j0 k a0 a1 ([] : List Int) t276 (a1 == 32)) else (turnoutref01_bytes.j0 k a0 a1 ([] : List Int) t276 false))) = some (r1, r2) := h
 clear h
 replace H := Option.bind_eq_some_iff.mp H
 obtain ⟨t276, A30, H⟩ := H
 replace H : (if (t276.length : Int) = 4 then (turnoutref01_bytes.j0 k a0 a1 ([] : List Int) t276 (a1 == 32)) else (turnoutref01_bytes.j0 k a0 a1 ([] : List Int) t276 false)) = some (r1, r2) := H
 have A3 := Aside0.mk A30
 clear A30
 have HC4 := Aside0.mk H
 clear H
 go_enter Tryd.func52, Tryd.ntmps52
 go_upto_region 3 with (first | ((with_reducible refine gate_callee (f := 76) rfl ?_); refine goesL_ (some 15) rfl rfl Tryd.func76 (by kernel_rfl) rfl #[.string a0, .int .u8 46] rfl (by (try simp only [List.map_toArray, List.map_cons, List.map_nil]); first | done | rfl | (simp only [List.length_drop, List.length_take]; rfl)) ?_; (with_reducible refine (turnoutref01_parts.calls k a0 46 t276 _ A3.out).mono ?_); rintro e w5 ⟨v277, rfl, ho0, hb⟩; refine ⟨_, rfl, ?_⟩; have n0_ := Aside0.mk (Kd.R_lower ho0 (below_size (by repeat (first | (with_reducible first | exact HB.out | apply below_alloc | apply pw_below_drewN | apply below_drew1) | exact HB.out)))); have n1_ := Aside0.mk (below_step (by repeat (first | (with_reducible first | exact HB.out | apply below_alloc | apply pw_below_drewN | apply below_drew1) | exact HB.out)) hb); clear HB; have HO278 := n0_; have HB := n1_; clear n0_ n1_; (try clear hb); (try clear hb2); (try clear hk); (try clear hi); (try clear ho0)))
 (try simp only [Act.put, List.setIfInBounds_toArray, List.set_cons_zero, List.set_cons_succ])
 go_cut [22] (fun v22 wc => ∃ (kq : Nat) (x22_3 : Bool), v22 = .bool x22_3 ∧ Aside0 (turnoutref01_bytes.j0 kq a0 a1 ([] : List Int) t276 x22_3 = some (r1, r2)) ∧ Aside0 (kq ≤ k) ∧ Aside0 (Kd.R (Kd.int .u8) 5 wc w.heap.size (fun _ => True) (.slice none 0 0) ([] : List Int)) ∧ Aside0 (Kd.R Kd.string 9 wc w.heap.size (fun _ => True) v277 t276) ∧ Aside0 (Below w.heap.size w wc))
 case first =>
  have H := HC4.out
  clear HC4
  by_cases c6 : (t276.length : Int) = 4
  ·
   rw [if_pos c6] at H
   have c6b0 : ((t276.length : Int) == 4) = true := beq_iff_eq.mpr c6
   have c6b1 : ((t276.length : Int) != 4) = false := bne_eq_false_iff_eq.mpr c6
   clear c6
   (first | rw [c6b0] | (simp only [i64_w, i32_w]; rw [c6b0]) | skip)
   have H' := Aside0.mk H
   clear H
   obtain ⟨Ao7, co7, eo7⟩ := Kd.R_slice HO278.out
   subst eo7
   go_wp2
   go_meet
   case rel => exact ⟨_, ((a1 == 32)), (by first | rfl | (simp; done) | (simp [*]; done)), H', ⟨by first | omega | exact Nat.le_refl _⟩, ⟨by first | exact Kd.R_nil _ _ _ _ _ | exact Kd.N_nil _ _ _ _ _ | exact Kd.V_nil _ _ _ _ _ | exact Kd.Q_nil _ _ _ _ _ | exact Kd.S_nil _ _ _ _ _⟩, ⟨by (with_reducible repeat (first | apply Kd.R_alloc | apply Kd.R_drewN | apply Kd.R_drew)); exact HO278.out⟩, ⟨by repeat (first | (with_reducible first | exact HB.out | apply below_alloc | apply pw_below_drewN | apply below_drew1) | exact HB.out)⟩⟩
  ·
   rw [if_neg c6] at H
   have c6b0 : ((t276.length : Int) == 4) = false := beq_eq_false_iff_ne.mpr c6
   have c6b1 : ((t276.length : Int) != 4) = true := bne_iff_ne.mpr c6
   (first | rw [c6b0] | (simp only [i64_w, i32_w]; rw [c6b0]) | skip)
   have H' := Aside0.mk H
   clear H
   obtain ⟨Ao8, co8, eo8⟩ := Kd.R_slice HO278.out
   subst eo8
   go_wp2
   go_meet
   case rel => exact ⟨_, (false), (by first | rfl | (simp; done) | (simp [*]; done)), H', ⟨by first | omega | exact Nat.le_refl _⟩, ⟨by first | exact Kd.R_nil _ _ _ _ _ | exact Kd.N_nil _ _ _ _ _ | exact Kd.V_nil _ _ _ _ _ | exact Kd.Q_nil _ _ _ _ _ | exact Kd.S_nil _ _ _ _ _⟩, ⟨by (with_reducible repeat (first | apply Kd.R_alloc | apply Kd.R_drewN | apply Kd.R_drew)); exact HO278.out⟩, ⟨by repeat (first | (with_reducible first | exact HB.out | apply below_alloc | apply pw_below_drewN | apply below_drew1) | exact HB.out)⟩⟩
 case rest =>
  clear HC4
  try clear p2
  try clear c5
  try clear c6
  try clear c6b0
  try clear c6b1
  try clear c7
  obtain ⟨kq, x22_3, rfl, HA, HJ3, HO_6, HO_7, HB⟩ := hcut
  cases kq with
  | zero => exact absurd HA.out (by simp [turnoutref01_bytes.j0])
  | succ kj3 =>
   have H := HA.out
   clear HA
   simp only [turnoutref01_bytes.j0] at H
   by_cases c9 : x22_3 = true
   ·
    subst c9
    have H1 : (turnoutref01_bytes.l0 kj3 ([] : List Int) t276 0) = some (r1, r2) := by rw [if_pos rfl] at H; exact H
    clear H
    have H := H1
    clear H1
    have H' := Aside0.mk H
    clear H
    go_wp2
    go_loopg [6, 8] kj3 (fun kq v6 v8 w' => ∃ (x6_2 : List Int) (x8_2 : Int), v8 = .int .i64 x8_2 ∧ Aside0 (turnoutref01_bytes.l0 kq x6_2 t276 x8_2 = some (r1, r2)) ∧ Aside0 (kq ≤ kj3) ∧ Aside0 (Kd.R (Kd.int .u8) 5 w' w.heap.size (fun _ => True) v6 x6_2) ∧ Aside0 (Kd.R Kd.string 9 w' w.heap.size (fun _ => True) v277 t276) ∧ Aside0 (Below w.heap.size w w'))
    case atStart => exact ⟨(([] : List Int)), (0), (by first | rfl | (simp; done) | (simp [*]; done)), H', ⟨Nat.le_refl _⟩, ⟨by (with_reducible repeat (first | apply Kd.R_alloc | apply Kd.R_drewN | apply Kd.R_drew)); exact HO_6.out⟩, ⟨by (with_reducible repeat (first | apply Kd.R_alloc | apply Kd.R_drewN | apply Kd.R_drew)); exact HO_7.out⟩, ⟨by repeat (first | (with_reducible first | exact HB.out | apply below_alloc | apply pw_below_drewN | apply below_drew1) | exact HB.out)⟩⟩
    case round =>
     clear H'
     try clear p2
     try clear c5
     try clear c6
     try clear c6b0
     try clear c6b1
     try clear c7
     try clear c9
     try clear p2
     obtain ⟨x6_2, x8_2, rfl, HA, HK2, HO_6, HO_7, HB⟩ := hrel
     cases gk with
     | zero => exact absurd HA.out (by simp [turnoutref01_bytes.l0])
     | succ k2 =>
      have H := HA.out
      clear HA
      simp only [turnoutref01_bytes.l0] at H
      by_cases c10 : x8_2 < 4
      ·
       rw [if_pos c10] at H
       have c10b0 : decide (x8_2 < 4) = true := decide_eq_true c10
       clear c10
       by_cases c11 : 0 ≤ x8_2
       ·
        rw [if_pos c11] at H
        have c11b0 : decide (0 ≤ x8_2) = true := decide_eq_true c11
        clear c11
        by_cases c12 : x8_2 < (t276.length : Int)
        ·
         rw [if_pos c12] at H
         have c12b0 : decide (x8_2 < (t276.length : Int)) = true := decide_eq_true c12
         clear c12
         replace H := Option.bind_eq_some_iff.mp H
         obtain ⟨⟨t280, t281, t282, t283⟩, A130, H⟩ := H
         replace H : (if t283 = true then (if t282 = true then ((turnoutref01_Compare.f t280 t281 0 255).bind fun t285 => (if t285 > 0 then (some ((⟨#[]⟩ : ByteArray), false)) else (if x6_2.length < 140737488355328 then (turnoutref01_bytes.l0 k2 (x6_2 ++ [(t281) % 256]) t276 (wrap64 (x8_2 + 1))) else (none)))) else (some ((⟨#[]⟩ : ByteArray), false))) else (some ((⟨#[]⟩ : ByteArray), false))) = some (r1, r2) := H
         have A13 := Aside0.mk A130
         clear A130
         by_cases c14 : t283 = true
         ·
          subst c14
          have H1 : (if t282 = true then ((turnoutref01_Compare.f t280 t281 0 255).bind fun t285 => (if t285 > 0 then (some ((⟨#[]⟩ : ByteArray), false)) else (if x6_2.length < 140737488355328 then (turnoutref01_bytes.l0 k2 (x6_2 ++ [(t281) % 256]) t276 (wrap64 (x8_2 + 1))) else (none)))) else (some ((⟨#[]⟩ : ByteArray), false))) = some (r1, r2) := by rw [if_pos rfl] at H; exact H
          clear H
          have H := H1
          clear H1
          by_cases c15 : t282 = true
          ·
           subst c15
           have H1 : ((turnoutref01_Compare.f t280 t281 0 255).bind fun t285 => (if t285 > 0 then (some ((⟨#[]⟩ : ByteArray), false)) else (if x6_2.length < 140737488355328 then (turnoutref01_bytes.l0 k2 (x6_2 ++ [(t281) % 256]) t276 (wrap64 (x8_2 + 1))) else (none)))) = some (r1, r2) := by rw [if_pos rfl] at H; exact H
           clear H
           have H := H1
           clear H1
           replace H := Option.bind_eq_some_iff.mp H
           obtain ⟨t285, A160, H⟩ := H
           replace H : (if t285 > 0 then (some ((⟨#[]⟩ : ByteArray), false)) else (if x6_2.length < 140737488355328 then (turnoutref01_bytes.l0 k2 (x6_2 ++ [(t281) % 256]) t276 (wrap64 (x8_2 + 1))) else (none))) = some (r1, r2) := H
           have A16 := Aside0.mk A160
           clear A160
           by_cases c17 : t285 > 0
           ·
            rw [if_pos c17] at H
            have c17b0 : decide (0 < t285) = true := decide_eq_true c17
            clear c17
            simp only [Option.some.injEq, Prod.mk.injEq] at H
            obtain ⟨rfl, rfl⟩ := H
            obtain ⟨Ao18, co18, eo18⟩ := Kd.R_slice HO_7.out
            subst eo18
            have p279 : 0 ≤ (x8_2 : Int) := of_decide_eq_true (by first | (with_reducible assumption) | assumption)
            have q279 : x8_2 < (t276.length : Int) := of_decide_eq_true (by first | (with_reducible assumption) | assumption)
            obtain ⟨ad279, e279, hx279_0⟩ := Kd.at_string (Kd.R_reads' HO_7.out).2.2 x8_2 p279 q279
            cases e279
            replace p279 := eq_true p279
            replace q279 := eq_true q279
            go_wp2_with (first | ((with_reducible refine gate_callee (f := 51) rfl ?_); refine goesL_ (some 32) rfl rfl Tryd.func51 (by kernel_rfl) rfl #[.string (rdOf ByteArray.empty t276 x8_2), .int .i64 10] rfl (by (try simp only [List.map_toArray, List.map_cons, List.map_nil]); first | done | rfl | (simp only [List.length_drop, List.length_take]; rfl)) ?_; (with_reducible refine (turnoutref01_number.calls k2 (rdOf ByteArray.empty t276 x8_2) 10 t280 t281 true true _ A13.out).mono ?_); rintro e w19 ⟨rfl, hb⟩; refine ⟨_, rfl, ?_⟩; have n0_ := Aside0.mk (Kd.R_below (by (with_reducible repeat (first | apply Kd.R_alloc | apply Kd.R_drewN | apply Kd.R_drew)); exact HO_6.out) hb); have n1_ := Aside0.mk (Kd.R_below (by (with_reducible repeat (first | apply Kd.R_alloc | apply Kd.R_drewN | apply Kd.R_drew)); exact HO_7.out) hb); have n2_ := Aside0.mk (below_step (by repeat (first | (with_reducible first | exact HB.out | apply below_alloc | apply pw_below_drewN | apply below_drew1) | exact HB.out)) hb); clear HO_6; clear HO_7; clear HB; have HO_6 := n0_; have HO_7 := n1_; have HB := n2_; clear n0_ n1_ n2_; (try clear hb); (try clear hb2); (try clear hk); (try clear hi)) | ((with_reducible refine gate_dst (N := 9) rfl ?_); (try (refine gate_guard (by rfl) ?_; dsimp only)); refine box_event ?hg (N := 9) ?hd (cs := #[.int .u64 0, .int .u64 0]) (t := 24) ?hr ?_; (case hd => rfl); (case hg => rfl); (case hr => first | (go_simp; done) | (go_simp; rfl)); intro gb284 hg w20 hbox hb; have n0_ := Aside0.mk (Kd.R_below (by (with_reducible repeat (first | apply Kd.R_alloc | apply Kd.R_drewN | apply Kd.R_drew)); exact HO_6.out) hb); have n1_ := Aside0.mk (Kd.R_below (by (with_reducible repeat (first | apply Kd.R_alloc | apply Kd.R_drewN | apply Kd.R_drew)); exact HO_7.out) hb); have n2_ := Aside0.mk (below_step (by repeat (first | (with_reducible first | exact HB.out | apply below_alloc | apply pw_below_drewN | apply below_drew1) | exact HB.out)) hb); have n3_ := Aside0.mk (hbox); have n4_ := Aside0.mk ((by rw [hg]; exact (below_size (by repeat (first | (with_reducible first | exact HB.out | apply below_alloc | apply pw_below_drewN | apply below_drew1) | exact HB.out))) : w.heap.size ≤ gb284)); have n5_ := Aside0.mk ((by rw [hg]; exact (below_size (by repeat (first | (with_reducible first | exact HB.out | apply below_alloc | apply pw_below_drewN | apply below_drew1) | exact HB.out))) : w.heap.size ≤ gb284)); clear HO_6; clear HO_7; clear HB; have HO_6 := n0_; have HO_7 := n1_; have HB := n2_; have BK284 := n3_; have GW284 := n4_; have GE284 := n5_; clear n0_ n1_ n2_ n3_ n4_ n5_; clear hb hbox hg; have hcz21_0 : w20.cell? ⟨gb284, 0, none⟩ = some (.int .u64 0) := (blk_cell BK284.out 0).trans rfl; have hcz21_1 : w20.cell? ⟨gb284, 1, none⟩ = some (.int .u64 0) := (blk_cell BK284.out 1).trans rfl; have hfz21_0 := blk_frozen BK284.out 0; have hfz21_1 := blk_frozen BK284.out 1) | (go_at_call 30; (with_reducible refine (turnoutref01_Compare.calls t280 t281 0 255 t285 _ A16.out).mono ?_); rintro e w22 ⟨rfl, hb⟩; have n0_ := Aside0.mk (Kd.R_below (by (with_reducible repeat (first | apply Kd.R_alloc | apply Kd.R_drewN | apply Kd.R_drew)); exact (Kd.R_mono (Kd.R_far (p := ⟨gb284, 1, none⟩) (Kd.R_far (p := ⟨gb284, 0, none⟩) (Kd.R_types HO_6.out BK284.out (by decide)) (fun _ hk => hk.2) (.int .u64 t280)) (fun _ hk => hk.2) (.int .u64 t281)) (fun _ h_ => h_.1))) hb); have n1_ := Aside0.mk (Kd.R_below (by (with_reducible repeat (first | apply Kd.R_alloc | apply Kd.R_drewN | apply Kd.R_drew)); exact (Kd.R_mono (Kd.R_far (p := ⟨gb284, 1, none⟩) (Kd.R_far (p := ⟨gb284, 0, none⟩) (Kd.R_types HO_7.out BK284.out (by decide)) (fun _ hk => hk.2) (.int .u64 t280)) (fun _ hk => hk.2) (.int .u64 t281)) (fun _ h_ => h_.1))) hb); have n2_ := Aside0.mk (blk_below (g := gb284) (o := .cells #[.int .u64 t280, .int .u64 t281] 24 (0, 0)) (by (with_reducible repeat (first | refine blk_drewN ?_ _ | refine blk_drew ?_ | refine blk_alloc ?_ _)); refine blk_put (cs := #[.int .u64 t280, .int .u64 0]) ?_ 1 _ rfl; (with_reducible repeat (first | refine blk_drewN ?_ _ | refine blk_drew ?_ | refine blk_alloc ?_ _)); refine blk_put (cs := #[.int .u64 0, .int .u64 0]) ?_ 0 _ rfl; (with_reducible repeat (first | refine blk_drewN ?_ _ | refine blk_drew ?_ | refine blk_alloc ?_ _)); exact BK284.out) hb); have n3_ := Aside0.mk (below_step (by repeat (first | (with_reducible first | exact HB.out | apply below_alloc | apply pw_below_drewN | apply below_drew1 | refine below_set ?_ GE284.out) | exact HB.out)) hb); clear HO_6; clear HO_7; clear BK284; clear HB; have HO_6 := n0_; have HO_7 := n1_; have BK284 := n2_; have HB := n3_; clear n0_ n1_ n2_ n3_; (try clear hb); (try clear hb2); (try clear hk); (try clear hi)))
            go_ret2
            exact ⟨by first | rfl | (simp [errW_none, errW_some] <;> rfl) | (simp [*, errW_none, errW_some] <;> rfl), by repeat (first | (with_reducible first | exact HB.out | apply below_alloc | apply pw_below_drewN | apply below_drew1 | refine below_set ?_ GE284.out) | exact HB.out)⟩
           ·
            rw [if_neg c17] at H
            have c17b0 : decide (0 < t285) = false := decide_eq_false c17
            clear c17
            by_cases c23 : x6_2.length < 140737488355328
            ·
             rw [if_pos c23] at H
             have LMc23 := Aside0.mk c23
             clear c23
             obtain ⟨y286, hy286⟩ : ∃ y_ : List Int, y_ = (x6_2 ++ [(t281) % 256]) := ⟨_, rfl⟩
             replace H : (turnoutref01_bytes.l0 k2 y286 t276 (wrap64 (x8_2 + 1))) = some (r1, r2) := by first | (rw [hy286]; with_reducible exact H) | (have H2_ := (Option.bind_some _ _).symm.trans H; rw [hy286]; with_reducible exact H2_) | (have H2_ := (Option.bind_some _ _).symm.trans H; with_reducible exact H2_) | with_reducible exact H | (rw [hy286]; exact H) | exact H
             have Ny286 := Aside0.mk hy286
             clear hy286
             have H' := Aside0.mk H
             clear H
             obtain ⟨Ao24, co24, eo24⟩ := Kd.R_slice HO_7.out
             subst eo24
             have p279 : 0 ≤ (x8_2 : Int) := of_decide_eq_true (by first | (with_reducible assumption) | assumption)
             have q279 : x8_2 < (t276.length : Int) := of_decide_eq_true (by first | (with_reducible assumption) | assumption)
             obtain ⟨ad279, e279, hx279_0⟩ := Kd.at_string (Kd.R_reads' HO_7.out).2.2 x8_2 p279 q279
             cases e279
             replace p279 := eq_true p279
             replace q279 := eq_true q279
             go_wp2_with (first | ((with_reducible refine gate_callee (f := 51) rfl ?_); refine goesL_ (some 32) rfl rfl Tryd.func51 (by kernel_rfl) rfl #[.string (rdOf ByteArray.empty t276 x8_2), .int .i64 10] rfl (by (try simp only [List.map_toArray, List.map_cons, List.map_nil]); first | done | rfl | (simp only [List.length_drop, List.length_take]; rfl)) ?_; (with_reducible refine (turnoutref01_number.calls k2 (rdOf ByteArray.empty t276 x8_2) 10 t280 t281 true true _ A13.out).mono ?_); rintro e w25 ⟨rfl, hb⟩; refine ⟨_, rfl, ?_⟩; have n0_ := Aside0.mk (Kd.R_below (by (with_reducible repeat (first | apply Kd.R_alloc | apply Kd.R_drewN | apply Kd.R_drew)); exact HO_6.out) hb); have n1_ := Aside0.mk (Kd.R_below (by (with_reducible repeat (first | apply Kd.R_alloc | apply Kd.R_drewN | apply Kd.R_drew)); exact HO_7.out) hb); have n2_ := Aside0.mk (below_step (by repeat (first | (with_reducible first | exact HB.out | apply below_alloc | apply pw_below_drewN | apply below_drew1) | exact HB.out)) hb); clear HO_6; clear HO_7; clear HB; have HO_6 := n0_; have HO_7 := n1_; have HB := n2_; clear n0_ n1_ n2_; (try clear hb); (try clear hb2); (try clear hk); (try clear hi)) | ((with_reducible refine gate_dst (N := 9) rfl ?_); (try (refine gate_guard (by rfl) ?_; dsimp only)); refine box_event ?hg (N := 9) ?hd (cs := #[.int .u64 0, .int .u64 0]) (t := 24) ?hr ?_; (case hd => rfl); (case hg => rfl); (case hr => first | (go_simp; done) | (go_simp; rfl)); intro gb284 hg w26 hbox hb; have n0_ := Aside0.mk (Kd.R_below (by (with_reducible repeat (first | apply Kd.R_alloc | apply Kd.R_drewN | apply Kd.R_drew)); exact HO_6.out) hb); have n1_ := Aside0.mk (Kd.R_below (by (with_reducible repeat (first | apply Kd.R_alloc | apply Kd.R_drewN | apply Kd.R_drew)); exact HO_7.out) hb); have n2_ := Aside0.mk (below_step (by repeat (first | (with_reducible first | exact HB.out | apply below_alloc | apply pw_below_drewN | apply below_drew1) | exact HB.out)) hb); have n3_ := Aside0.mk (hbox); have n4_ := Aside0.mk ((by rw [hg]; exact (below_size (by repeat (first | (with_reducible first | exact HB.out | apply below_alloc | apply pw_below_drewN | apply below_drew1) | exact HB.out))) : w.heap.size ≤ gb284)); have n5_ := Aside0.mk ((by rw [hg]; exact (below_size (by repeat (first | (with_reducible first | exact HB.out | apply below_alloc | apply pw_below_drewN | apply below_drew1) | exact HB.out))) : w.heap.size ≤ gb284)); clear HO_6; clear HO_7; clear HB; have HO_6 := n0_; have HO_7 := n1_; have HB := n2_; have BK284 := n3_; have GW284 := n4_; have GE284 := n5_; clear n0_ n1_ n2_ n3_ n4_ n5_; clear hb hbox hg; have hcz27_0 : w26.cell? ⟨gb284, 0, none⟩ = some (.int .u64 0) := (blk_cell BK284.out 0).trans rfl; have hcz27_1 : w26.cell? ⟨gb284, 1, none⟩ = some (.int .u64 0) := (blk_cell BK284.out 1).trans rfl; have hfz27_0 := blk_frozen BK284.out 0; have hfz27_1 := blk_frozen BK284.out 1) | (go_at_call 30; (with_reducible refine (turnoutref01_Compare.calls t280 t281 0 255 t285 _ A16.out).mono ?_); rintro e w28 ⟨rfl, hb⟩; have n0_ := Aside0.mk (Kd.R_below (by (with_reducible repeat (first | apply Kd.R_alloc | apply Kd.R_drewN | apply Kd.R_drew)); exact (Kd.R_mono (Kd.R_far (p := ⟨gb284, 1, none⟩) (Kd.R_far (p := ⟨gb284, 0, none⟩) (Kd.R_types HO_6.out BK284.out (by decide)) (fun _ hk => hk.2) (.int .u64 t280)) (fun _ hk => hk.2) (.int .u64 t281)) (fun _ h_ => h_.1))) hb); have n1_ := Aside0.mk (Kd.R_below (by (with_reducible repeat (first | apply Kd.R_alloc | apply Kd.R_drewN | apply Kd.R_drew)); exact (Kd.R_mono (Kd.R_far (p := ⟨gb284, 1, none⟩) (Kd.R_far (p := ⟨gb284, 0, none⟩) (Kd.R_types HO_7.out BK284.out (by decide)) (fun _ hk => hk.2) (.int .u64 t280)) (fun _ hk => hk.2) (.int .u64 t281)) (fun _ h_ => h_.1))) hb); have n2_ := Aside0.mk (blk_below (g := gb284) (o := .cells #[.int .u64 t280, .int .u64 t281] 24 (0, 0)) (by (with_reducible repeat (first | refine blk_drewN ?_ _ | refine blk_drew ?_ | refine blk_alloc ?_ _)); refine blk_put (cs := #[.int .u64 t280, .int .u64 0]) ?_ 1 _ rfl; (with_reducible repeat (first | refine blk_drewN ?_ _ | refine blk_drew ?_ | refine blk_alloc ?_ _)); refine blk_put (cs := #[.int .u64 0, .int .u64 0]) ?_ 0 _ rfl; (with_reducible repeat (first | refine blk_drewN ?_ _ | refine blk_drew ?_ | refine blk_alloc ?_ _)); exact BK284.out) hb); have n3_ := Aside0.mk (below_step (by repeat (first | (with_reducible first | exact HB.out | apply below_alloc | apply pw_below_drewN | apply below_drew1 | refine below_set ?_ GE284.out) | exact HB.out)) hb); clear HO_6; clear HO_7; clear BK284; clear HB; have HO_6 := n0_; have HO_7 := n1_; have BK284 := n2_; have HB := n3_; clear n0_ n1_ n2_ n3_; (try clear hb); (try clear hb2); (try clear hk); (try clear hi); have hcz29_0 : w28.cell? ⟨gb284, 0, none⟩ = some (.int .u64 t280) := (blk_cell BK284.out 0).trans rfl; have hcz29_1 : w28.cell? ⟨gb284, 1, none⟩ = some (.int .u64 t281) := (blk_cell BK284.out 1).trans rfl; have hfz29_0 := blk_frozen BK284.out 0; have hfz29_1 := blk_frozen BK284.out 1) | ((with_reducible refine gate_builtin (b := .append) (xs := #[.tmp 48, .tmp 52]) rfl ?_); (try (refine gate_guard (by rfl) ?_; dsimp only)); at_builtin; refine Kd.R_append (Kd.int .u8) (w0 := w) w.heap.size rfl (.tmp 48) (.tmp 52) 50 5 (.int .u8 0) 1 rfl Tryd.underlying50 info5 rfl (by decide) (by omega) u6 x6_2 ((t281) % 256) [.int .u8 ((t281) % 256)] (fun _ => True) (fun _ => False) rfl rfl ?aP (fun _ hk => hk.elim) ?aF ?aO ?aB ?aS ?aL ?_; (case aP => exact rfl); (case aB => exact (by repeat (first | (with_reducible first | exact HB.out | apply below_alloc | apply pw_below_drewN | apply below_drew1 | refine below_set ?_ GE284.out) | exact HB.out))); (case aF => exact (fun _ _ => trivial)); (case aO => exact (by (with_reducible repeat (first | apply Kd.R_alloc | apply Kd.R_drewN | apply Kd.R_drew)); exact HO_6.out)); (case aS => exact (below_size (by repeat (first | (with_reducible first | exact HB.out | apply below_alloc | apply pw_below_drewN | apply below_drew1 | refine below_set ?_ GE284.out) | exact HB.out)))); (case aL => have := LMc23.out; omega); intro v287 w30 ho hb hg hat; rw [← Ny286.out] at ho; have n0_ := Aside0.mk (Kd.R_over' (by (with_reducible repeat (first | apply Kd.R_alloc | apply Kd.R_drewN | apply Kd.R_drew)); exact HO_7.out) (Kd.R_typed (by (with_reducible repeat (first | apply Kd.R_alloc | apply Kd.R_drewN | apply Kd.R_drew)); exact HO_6.out)) (by decide) hg); have n1_ := Aside0.mk (blk_grown (g := gb284) (o := .cells #[.int .u64 t280, .int .u64 t281] 24 (0, 0)) (by (with_reducible repeat (first | refine blk_drewN ?_ _ | refine blk_drew ?_ | refine blk_alloc ?_ _)); exact BK284.out) hg (Kd.R_ne HO_6.out BK284.out (by decide))); have n2_ := Aside0.mk (hb); have n3_ := Aside0.mk (ho); clear HO_7; clear BK284; clear HB; clear HO_6; have HO_7 := n0_; have BK284 := n1_; have HB := n2_; have HO288 := n3_; clear n0_ n1_ n2_ n3_; clear ho hb hg hat))
             go_roundg k2
             case measure => have := HJ3.out; have := HK2.out; omega
             case rel => exact ⟨(y286), (wrap64 (x8_2 + 1)), (by first | rfl | (simp; done) | (simp [*]; done)), H', ⟨by have := HJ3.out; have := HK2.out; omega⟩, ⟨by (with_reducible repeat (first | apply Kd.R_alloc | apply Kd.R_drewN | apply Kd.R_drew)); exact HO288.out⟩, ⟨by (with_reducible repeat (first | apply Kd.R_alloc | apply Kd.R_drewN | apply Kd.R_drew)); exact HO_7.out⟩, ⟨by repeat (first | (with_reducible first | exact HB.out | apply below_alloc | apply pw_below_drewN | apply below_drew1 | refine below_set ?_ GE284.out) | exact HB.out)⟩⟩
            ·
             rw [if_neg c23] at H
             exact absurd H (by simp)
          ·
           replace c15 := Bool.eq_false_iff.mpr c15
           subst c15
           have H1 : (some ((⟨#[]⟩ : ByteArray), false)) = some (r1, r2) := by rw [if_neg (show ¬ (false = true) by decide)] at H; exact H
           clear H
           have H := H1
           clear H1
           simp only [Option.some.injEq, Prod.mk.injEq] at H
           obtain ⟨rfl, rfl⟩ := H
           obtain ⟨Ao31, co31, eo31⟩ := Kd.R_slice HO_7.out
           subst eo31
           have p279 : 0 ≤ (x8_2 : Int) := of_decide_eq_true (by first | (with_reducible assumption) | assumption)
           have q279 : x8_2 < (t276.length : Int) := of_decide_eq_true (by first | (with_reducible assumption) | assumption)
           obtain ⟨ad279, e279, hx279_0⟩ := Kd.at_string (Kd.R_reads' HO_7.out).2.2 x8_2 p279 q279
           cases e279
           replace p279 := eq_true p279
           replace q279 := eq_true q279
           go_wp2_with (first | ((with_reducible refine gate_callee (f := 51) rfl ?_); refine goesL_ (some 32) rfl rfl Tryd.func51 (by kernel_rfl) rfl #[.string (rdOf ByteArray.empty t276 x8_2), .int .i64 10] rfl (by (try simp only [List.map_toArray, List.map_cons, List.map_nil]); first | done | rfl | (simp only [List.length_drop, List.length_take]; rfl)) ?_; (with_reducible refine (turnoutref01_number.calls k2 (rdOf ByteArray.empty t276 x8_2) 10 t280 t281 false true _ A13.out).mono ?_); rintro e w32 ⟨rfl, hb⟩; refine ⟨_, rfl, ?_⟩; have n0_ := Aside0.mk (Kd.R_below (by (with_reducible repeat (first | apply Kd.R_alloc | apply Kd.R_drewN | apply Kd.R_drew)); exact HO_6.out) hb); have n1_ := Aside0.mk (Kd.R_below (by (with_reducible repeat (first | apply Kd.R_alloc | apply Kd.R_drewN | apply Kd.R_drew)); exact HO_7.out) hb); have n2_ := Aside0.mk (below_step (by repeat (first | (with_reducible first | exact HB.out | apply below_alloc | apply pw_below_drewN | apply below_drew1) | exact HB.out)) hb); clear HO_6; clear HO_7; clear HB; have HO_6 := n0_; have HO_7 := n1_; have HB := n2_; clear n0_ n1_ n2_; (try clear hb); (try clear hb2); (try clear hk); (try clear hi)) | ((with_reducible refine gate_dst (N := 9) rfl ?_); (try (refine gate_guard (by rfl) ?_; dsimp only)); refine box_event ?hg (N := 9) ?hd (cs := #[.int .u64 0, .int .u64 0]) (t := 24) ?hr ?_; (case hd => rfl); (case hg => rfl); (case hr => first | (go_simp; done) | (go_simp; rfl)); intro gb284 hg w33 hbox hb; have n0_ := Aside0.mk (Kd.R_below (by (with_reducible repeat (first | apply Kd.R_alloc | apply Kd.R_drewN | apply Kd.R_drew)); exact HO_6.out) hb); have n1_ := Aside0.mk (Kd.R_below (by (with_reducible repeat (first | apply Kd.R_alloc | apply Kd.R_drewN | apply Kd.R_drew)); exact HO_7.out) hb); have n2_ := Aside0.mk (below_step (by repeat (first | (with_reducible first | exact HB.out | apply below_alloc | apply pw_below_drewN | apply below_drew1) | exact HB.out)) hb); have n3_ := Aside0.mk (hbox); have n4_ := Aside0.mk ((by rw [hg]; exact (below_size (by repeat (first | (with_reducible first | exact HB.out | apply below_alloc | apply pw_below_drewN | apply below_drew1) | exact HB.out))) : w.heap.size ≤ gb284)); have n5_ := Aside0.mk ((by rw [hg]; exact (below_size (by repeat (first | (with_reducible first | exact HB.out | apply below_alloc | apply pw_below_drewN | apply below_drew1) | exact HB.out))) : w.heap.size ≤ gb284)); clear HO_6; clear HO_7; clear HB; have HO_6 := n0_; have HO_7 := n1_; have HB := n2_; have BK284 := n3_; have GW284 := n4_; have GE284 := n5_; clear n0_ n1_ n2_ n3_ n4_ n5_; clear hb hbox hg; have hcz34_0 : w33.cell? ⟨gb284, 0, none⟩ = some (.int .u64 0) := (blk_cell BK284.out 0).trans rfl; have hcz34_1 : w33.cell? ⟨gb284, 1, none⟩ = some (.int .u64 0) := (blk_cell BK284.out 1).trans rfl; have hfz34_0 := blk_frozen BK284.out 0; have hfz34_1 := blk_frozen BK284.out 1))
           go_ret2
           exact ⟨by first | rfl | (simp [errW_none, errW_some] <;> rfl) | (simp [*, errW_none, errW_some] <;> rfl), by repeat (first | (with_reducible first | exact HB.out | apply below_alloc | apply pw_below_drewN | apply below_drew1 | refine below_set ?_ GE284.out) | exact HB.out)⟩
         ·
          replace c14 := Bool.eq_false_iff.mpr c14
          subst c14
          have H1 : (some ((⟨#[]⟩ : ByteArray), false)) = some (r1, r2) := by rw [if_neg (show ¬ (false = true) by decide)] at H; exact H
          clear H
          have H := H1
          clear H1
          simp only [Option.some.injEq, Prod.mk.injEq] at H
          obtain ⟨rfl, rfl⟩ := H
          obtain ⟨Ao35, co35, eo35⟩ := Kd.R_slice HO_7.out
          subst eo35
          have p279 : 0 ≤ (x8_2 : Int) := of_decide_eq_true (by first | (with_reducible assumption) | assumption)
          have q279 : x8_2 < (t276.length : Int) := of_decide_eq_true (by first | (with_reducible assumption) | assumption)
          obtain ⟨ad279, e279, hx279_0⟩ := Kd.at_string (Kd.R_reads' HO_7.out).2.2 x8_2 p279 q279
          cases e279
          replace p279 := eq_true p279
          replace q279 := eq_true q279
          go_wp2_with (first | ((with_reducible refine gate_callee (f := 51) rfl ?_); refine goesL_ (some 32) rfl rfl Tryd.func51 (by kernel_rfl) rfl #[.string (rdOf ByteArray.empty t276 x8_2), .int .i64 10] rfl (by (try simp only [List.map_toArray, List.map_cons, List.map_nil]); first | done | rfl | (simp only [List.length_drop, List.length_take]; rfl)) ?_; (with_reducible refine (turnoutref01_number.calls k2 (rdOf ByteArray.empty t276 x8_2) 10 t280 t281 t282 false _ A13.out).mono ?_); rintro e w36 ⟨rfl, hb⟩; refine ⟨_, rfl, ?_⟩; have n0_ := Aside0.mk (Kd.R_below (by (with_reducible repeat (first | apply Kd.R_alloc | apply Kd.R_drewN | apply Kd.R_drew)); exact HO_6.out) hb); have n1_ := Aside0.mk (Kd.R_below (by (with_reducible repeat (first | apply Kd.R_alloc | apply Kd.R_drewN | apply Kd.R_drew)); exact HO_7.out) hb); have n2_ := Aside0.mk (below_step (by repeat (first | (with_reducible first | exact HB.out | apply below_alloc | apply pw_below_drewN | apply below_drew1) | exact HB.out)) hb); clear HO_6; clear HO_7; clear HB; have HO_6 := n0_; have HO_7 := n1_; have HB := n2_; clear n0_ n1_ n2_; (try clear hb); (try clear hb2); (try clear hk); (try clear hi)) | ((with_reducible refine gate_dst (N := 9) rfl ?_); (try (refine gate_guard (by rfl) ?_; dsimp only)); refine box_event ?hg (N := 9) ?hd (cs := #[.int .u64 0, .int .u64 0]) (t := 24) ?hr ?_; (case hd => rfl); (case hg => rfl); (case hr => first | (go_simp; done) | (go_simp; rfl)); intro gb284 hg w37 hbox hb; have n0_ := Aside0.mk (Kd.R_below (by (with_reducible repeat (first | apply Kd.R_alloc | apply Kd.R_drewN | apply Kd.R_drew)); exact HO_6.out) hb); have n1_ := Aside0.mk (Kd.R_below (by (with_reducible repeat (first | apply Kd.R_alloc | apply Kd.R_drewN | apply Kd.R_drew)); exact HO_7.out) hb); have n2_ := Aside0.mk (below_step (by repeat (first | (with_reducible first | exact HB.out | apply below_alloc | apply pw_below_drewN | apply below_drew1) | exact HB.out)) hb); have n3_ := Aside0.mk (hbox); have n4_ := Aside0.mk ((by rw [hg]; exact (below_size (by repeat (first | (with_reducible first | exact HB.out | apply below_alloc | apply pw_below_drewN | apply below_drew1) | exact HB.out))) : w.heap.size ≤ gb284)); have n5_ := Aside0.mk ((by rw [hg]; exact (below_size (by repeat (first | (with_reducible first | exact HB.out | apply below_alloc | apply pw_below_drewN | apply below_drew1) | exact HB.out))) : w.heap.size ≤ gb284)); clear HO_6; clear HO_7; clear HB; have HO_6 := n0_; have HO_7 := n1_; have HB := n2_; have BK284 := n3_; have GW284 := n4_; have GE284 := n5_; clear n0_ n1_ n2_ n3_ n4_ n5_; clear hb hbox hg; have hcz38_0 : w37.cell? ⟨gb284, 0, none⟩ = some (.int .u64 0) := (blk_cell BK284.out 0).trans rfl; have hcz38_1 : w37.cell? ⟨gb284, 1, none⟩ = some (.int .u64 0) := (blk_cell BK284.out 1).trans rfl; have hfz38_0 := blk_frozen BK284.out 0; have hfz38_1 := blk_frozen BK284.out 1))
          go_ret2
          exact ⟨by first | rfl | (simp [errW_none, errW_some] <;> rfl) | (simp [*, errW_none, errW_some] <;> rfl), by repeat (first | (with_reducible first | exact HB.out | apply below_alloc | apply pw_below_drewN | apply below_drew1 | refine below_set ?_ GE284.out) | exact HB.out)⟩
        ·
         rw [if_neg c12] at H
         exact absurd H (by simp)
       ·
        rw [if_neg c11] at H
        exact absurd H (by simp)
      ·
       rw [if_neg c10] at H
       have c10b0 : decide (x8_2 < 4) = false := decide_eq_false c10
       clear c10
       simp only [Option.some.injEq, Prod.mk.injEq] at H
       obtain ⟨rfl, rfl⟩ := H
       have hcv39 := own_string (P := Tryd.prog) Tryd.underlying50 Tryd.underlying5 Tryd.underlying9 (Kd.own_of_R HO_6.out)
       go_wp2
       go_ret2
       exact ⟨by first | rfl | (simp [errW_none, errW_some] <;> rfl) | (simp [*, errW_none, errW_some] <;> rfl), by repeat (first | (with_reducible first | exact HB.out | apply below_alloc | apply pw_below_drewN | apply below_drew1) | exact HB.out)⟩
   ·
    replace c9 := Bool.eq_false_iff.mpr c9
    subst c9
    have H1 : ((turnoutref01_parts.f kj3 a0 58).bind fun t289 => ((turnoutref01_Has.f kj3 a1 5).bind fun t292 => (if t292 = true then (turnoutref01_bytes.j2 kj3 ([] : List Int) t289 ((t289.length : Int) != (wrap64 (Int.tdiv a1 8)))) else (turnoutref01_bytes.j2 kj3 ([] : List Int) t289 true)))) = some (r1, r2) := by rw [if_neg (show ¬ (false = true) by decide)] at H; exact H
    clear H
    have H := H1
    clear H1
    replace H := Option.bind_eq_some_iff.mp H
    obtain ⟨t289, A400, H⟩ := H
    replace H : ((turnoutref01_Has.f kj3 a1 5).bind fun t292 => (if t292 = true then (turnoutref01_bytes.j2 kj3 ([] : List Int) t289 ((t289.length : Int) != (wrap64 (Int.tdiv a1 8)))) else (turnoutref01_bytes.j2 kj3 ([] : List Int) t289 true))) = some (r1, r2) := H
    have A40 := Aside0.mk A400
    clear A400
    have HC41 := Aside0.mk H
    clear H
    go_upto_region 13 with (first | ((with_reducible refine gate_callee (f := 76) rfl ?_); refine goesL_ (some 57) rfl rfl Tryd.func76 (by kernel_rfl) rfl #[.string a0, .int .u8 58] rfl (by (try simp only [List.map_toArray, List.map_cons, List.map_nil]); first | done | rfl | (simp only [List.length_drop, List.length_take]; rfl)) ?_; (with_reducible refine (turnoutref01_parts.calls kj3 a0 58 t289 _ A40.out).mono ?_); rintro e w42 ⟨v290, rfl, ho0, hb⟩; refine ⟨_, rfl, ?_⟩; have n0_ := Aside0.mk (Kd.R_below (by (with_reducible repeat (first | apply Kd.R_alloc | apply Kd.R_drewN | apply Kd.R_drew)); exact HO_6.out) hb); have n1_ := Aside0.mk (Kd.R_elder' (by (with_reducible repeat (first | apply Kd.R_alloc | apply Kd.R_drewN | apply Kd.R_drew)); exact HO_7.out) (Kd.R_base ho0) hb); have n2_ := Aside0.mk (Kd.R_lower (Kd.R_new' ho0 (Kd.R_lt (by (with_reducible repeat (first | apply Kd.R_alloc | apply Kd.R_drewN | apply Kd.R_drew)); exact HO_7.out))) (below_size (by repeat (first | (with_reducible first | exact HB.out | apply below_alloc | apply pw_below_drewN | apply below_drew1) | exact HB.out)))); have n3_ := Aside0.mk (below_step (by repeat (first | (with_reducible first | exact HB.out | apply below_alloc | apply pw_below_drewN | apply below_drew1) | exact HB.out)) hb); clear HO_6; clear HO_7; clear HB; have HO_6 := n0_; have HO_7 := n1_; have HO291 := n2_; have HB := n3_; clear n0_ n1_ n2_ n3_; (try clear hb); (try clear hb2); (try clear hk); (try clear hi); (try clear ho0)))
    (try simp only [Act.put, List.setIfInBounds_toArray, List.set_cons_zero, List.set_cons_succ])
    go_cut [67] (fun v67 wc => ∃ (kq : Nat) (x67_40 : Bool), v67 = .bool x67_40 ∧ Aside0 (turnoutref01_bytes.j2 kq ([] : List Int) t289 x67_40 = some (r1, r2)) ∧ Aside0 (kq ≤ kj3) ∧ Aside0 (Kd.R (Kd.int .u8) 5 wc w.heap.size (fun _ => True) (.slice none 0 0) ([] : List Int)) ∧ Aside0 (Kd.R Kd.string 9 wc w.heap.size (fun _ => True) v290 t289) ∧ Aside0 (Below w.heap.size w wc))
    case first =>
     have H := HC41.out
     clear HC41
     replace H := Option.bind_eq_some_iff.mp H
     obtain ⟨t292, A430, H⟩ := H
     replace H : (if t292 = true then (turnoutref01_bytes.j2 kj3 ([] : List Int) t289 ((t289.length : Int) != (wrap64 (Int.tdiv a1 8)))) else (turnoutref01_bytes.j2 kj3 ([] : List Int) t289 true)) = some (r1, r2) := H
     have A43 := Aside0.mk A430
     clear A430
     by_cases c44 : t292 = true
     ·
      subst c44
      have H1 : (turnoutref01_bytes.j2 kj3 ([] : List Int) t289 ((t289.length : Int) != (wrap64 (Int.tdiv a1 8)))) = some (r1, r2) := by rw [if_pos rfl] at H; exact H
      clear H
      have H := H1
      clear H1
      have H' := Aside0.mk H
      clear H
      go_wp2_with (first | ((with_reducible refine gate_callee (f := 46) rfl ?_); refine goesL_ (some 59) rfl rfl Tryd.func46 (by kernel_rfl) rfl #[.int .i64 a1, .int .i64 5] rfl (by (try simp only [List.map_toArray, List.map_cons, List.map_nil]); first | done | rfl | (simp only [List.length_drop, List.length_take]; rfl)) ?_; (with_reducible refine (turnoutref01_Has.calls kj3 a1 5 true _ A43.out).mono ?_); rintro e w' ⟨rfl, ⟨nd, rfl⟩⟩; refine ⟨_, rfl, ?_⟩; obtain ⟨Ao45, co45, eo45⟩ := Kd.R_slice HO291.out; subst eo45))
      go_meet
      case rel => exact ⟨_, (((t289.length : Int) != (wrap64 (Int.tdiv a1 8)))), (by first | rfl | (simp; done) | (simp [*]; done)), H', ⟨by have := HJ3.out; first | omega | exact Nat.le_refl _⟩, ⟨by (with_reducible repeat (first | apply Kd.R_alloc | apply Kd.R_drewN | apply Kd.R_drew)); exact HO_6.out⟩, ⟨by (with_reducible repeat (first | apply Kd.R_alloc | apply Kd.R_drewN | apply Kd.R_drew)); exact Kd.R_mono HO291.out (fun _ hk => trivial)⟩, ⟨by repeat (first | (with_reducible first | exact HB.out | apply below_alloc | apply pw_below_drewN | apply below_drew1) | exact HB.out)⟩⟩
     ·
      replace c44 := Bool.eq_false_iff.mpr c44
      subst c44
      have H1 : (turnoutref01_bytes.j2 kj3 ([] : List Int) t289 true) = some (r1, r2) := by rw [if_neg (show ¬ (false = true) by decide)] at H; exact H
      clear H
      have H := H1
      clear H1
      have H' := Aside0.mk H
      clear H
      go_wp2_with (first | ((with_reducible refine gate_callee (f := 46) rfl ?_); refine goesL_ (some 59) rfl rfl Tryd.func46 (by kernel_rfl) rfl #[.int .i64 a1, .int .i64 5] rfl (by (try simp only [List.map_toArray, List.map_cons, List.map_nil]); first | done | rfl | (simp only [List.length_drop, List.length_take]; rfl)) ?_; (with_reducible refine (turnoutref01_Has.calls kj3 a1 5 false _ A43.out).mono ?_); rintro e w' ⟨rfl, ⟨nd, rfl⟩⟩; refine ⟨_, rfl, ?_⟩))
      go_meet
      case rel => exact ⟨_, (true), (by first | rfl | (simp; done) | (simp [*]; done)), H', ⟨by have := HJ3.out; first | omega | exact Nat.le_refl _⟩, ⟨by (with_reducible repeat (first | apply Kd.R_alloc | apply Kd.R_drewN | apply Kd.R_drew)); exact HO_6.out⟩, ⟨by (with_reducible repeat (first | apply Kd.R_alloc | apply Kd.R_drewN | apply Kd.R_drew)); exact Kd.R_mono HO291.out (fun _ hk => trivial)⟩, ⟨by repeat (first | (with_reducible first | exact HB.out | apply below_alloc | apply pw_below_drewN | apply below_drew1) | exact HB.out)⟩⟩
    case rest =>
     clear HC41
     try clear c1
     try clear c2
     try clear p2
     try clear q2
     try clear hx2
     try clear hcv3
     try clear c4
     try clear c5
     try clear c6
     try clear c6b0
     try clear c6b1
     try clear p6
     try clear c7
     try clear c9
     try clear c10
     try clear c10b0
     try clear c11
     try clear c11b0
     try clear c12
     try clear c12b0
     try clear c14
     try clear c15
     try clear c17
     try clear c17b0
     try clear c23
     try clear p27
     try clear q27
     try clear hx27
     try clear hcv39
     try clear c44
     try clear hcz21_0
     try clear hcz21_1
     try clear hcz27_0
     try clear hcz27_1
     try clear hcz29_0
     try clear hcz29_1
     try clear hcz34_0
     try clear hcz34_1
     try clear hcz38_0
     try clear hcz38_1
     try clear hfz21_0
     try clear hfz21_1
     try clear hfz27_0
     try clear hfz27_1
     try clear hfz29_0
     try clear hfz29_1
     try clear hfz34_0
     try clear hfz34_1
     try clear hfz38_0
     try clear hfz38_1
     try clear hx279_0
     try clear p2
     try clear p279
     try clear q279
     obtain ⟨kq, x67_40, rfl, HA, HJ40, HO_6, HO_12, HB⟩ := hcut
     cases kq with
     | zero => exact absurd HA.out (by simp [turnoutref01_bytes.j2])
     | succ kj40 =>
      have H := HA.out
      clear HA
      simp only [turnoutref01_bytes.j2] at H
      by_cases c46 : x67_40 = true
      ·
       subst c46
       have H1 : (some ((⟨#[]⟩ : ByteArray), false)) = some (r1, r2) := by rw [if_pos rfl] at H; exact H
       clear H
       have H := H1
       clear H1
       simp only [Option.some.injEq, Prod.mk.injEq] at H
       obtain ⟨rfl, rfl⟩ := H
       go_wp2
       go_ret2
       exact ⟨by first | rfl | (simp [errW_none, errW_some] <;> rfl) | (simp [*, errW_none, errW_some] <;> rfl), by repeat (first | (with_reducible first | exact HB.out | apply below_alloc | apply pw_below_drewN | apply below_drew1) | exact HB.out)⟩
      ·
       replace c46 := Bool.eq_false_iff.mpr c46
       subst c46
       have H1 : (turnoutref01_bytes.l1 kj40 ([] : List Int) t289 0) = some (r1, r2) := by rw [if_neg (show ¬ (false = true) by decide)] at H; exact H
       clear H
       have H := H1
       clear H1
       have H' := Aside0.mk H
       clear H
       go_wp2
       go_loopg [6, 13] kj40 (fun kq v6 v13 w' => ∃ (x6_3 : List Int) (x13_3 : Int), v13 = .int .i64 x13_3 ∧ Aside0 (turnoutref01_bytes.l1 kq x6_3 t289 x13_3 = some (r1, r2)) ∧ Aside0 (kq ≤ kj40) ∧ Aside0 (Kd.R (Kd.int .u8) 5 w' w.heap.size (fun _ => True) v6 x6_3) ∧ Aside0 (Kd.R Kd.string 9 w' w.heap.size (fun _ => True) v290 t289) ∧ Aside0 (Below w.heap.size w w'))
       case atStart => exact ⟨(([] : List Int)), (0), (by first | rfl | (simp; done) | (simp [*]; done)), H', ⟨Nat.le_refl _⟩, ⟨by (with_reducible repeat (first | apply Kd.R_alloc | apply Kd.R_drewN | apply Kd.R_drew)); exact HO_6.out⟩, ⟨by (with_reducible repeat (first | apply Kd.R_alloc | apply Kd.R_drewN | apply Kd.R_drew)); exact HO_12.out⟩, ⟨by repeat (first | (with_reducible first | exact HB.out | apply below_alloc | apply pw_below_drewN | apply below_drew1) | exact HB.out)⟩⟩
       case round =>
        clear H'
        try clear c1
        try clear c2
        try clear p2
        try clear q2
        try clear hx2
        try clear hcv3
        try clear c4
        try clear c5
        try clear c6
        try clear c6b0
        try clear c6b1
        try clear p6
        try clear c7
        try clear c9
        try clear c10
        try clear c10b0
        try clear c11
        try clear c11b0
        try clear c12
        try clear c12b0
        try clear c14
        try clear c15
        try clear c17
        try clear c17b0
        try clear c23
        try clear p27
        try clear q27
        try clear hx27
        try clear hcv39
        try clear c44
        try clear c46
        try clear hcz21_0
        try clear hcz21_1
        try clear hcz27_0
        try clear hcz27_1
        try clear hcz29_0
        try clear hcz29_1
        try clear hcz34_0
        try clear hcz34_1
        try clear hcz38_0
        try clear hcz38_1
        try clear hfz21_0
        try clear hfz21_1
        try clear hfz27_0
        try clear hfz27_1
        try clear hfz29_0
        try clear hfz29_1
        try clear hfz34_0
        try clear hfz34_1
        try clear hfz38_0
        try clear hfz38_1
        try clear hx279_0
        try clear p2
        try clear p27
        try clear p279
        try clear p6
        try clear q2
        try clear q27
        try clear q279
        obtain ⟨x6_3, x13_3, rfl, HA, HK3, HO_6, HO_12, HB⟩ := hrel
        cases gk with
        | zero => exact absurd HA.out (by simp [turnoutref01_bytes.l1])
        | succ k3 =>
         have H := HA.out
         clear HA
         simp only [turnoutref01_bytes.l1] at H
         by_cases c47 : x13_3 < (t289.length : Int)
         ·
          rw [if_pos c47] at H
          have c47b0 : decide (x13_3 < (t289.length : Int)) = true := decide_eq_true c47
          clear c47
          have HC48 := Aside0.mk H
          clear H
          obtain ⟨Ao49, co49, eo49⟩ := Kd.R_slice HO_12.out
          subst eo49
          go_upto_region 18 with (fail)
          go_cut [97] (fun v97 wc => ∃ (kq : Nat) (x97_47 : Bool), v97 = .bool x97_47 ∧ Aside0 (turnoutref01_bytes.j4 kq x6_3 t289 x13_3 x97_47 = some (r1, r2)) ∧ Aside0 (kq ≤ k3) ∧ Aside0 (Kd.R (Kd.int .u8) 5 wc w.heap.size (fun _ => True) u6 x6_3) ∧ Aside0 (Kd.R Kd.string 9 wc w.heap.size (fun _ => True) (.slice Ao49 t289.length co49) t289) ∧ Aside0 (Below w.heap.size w wc))
          case first =>
           have H := HC48.out
           clear HC48
           by_cases c50 : 0 ≤ x13_3
           ·
            rw [if_pos c50] at H
            have c50b0 : decide (0 ≤ x13_3) = true := decide_eq_true c50
            clear c50
            (first | rw [c50b0] | (simp only [i64_w, i32_w]; rw [c50b0]) | skip)
            by_cases c51 : ((rdOf ByteArray.empty t289 x13_3).size : Int) = 2
            ·
             rw [if_pos c51] at H
             have c51b0 : (((rdOf ByteArray.empty t289 x13_3).size : Int) == 2) = true := beq_iff_eq.mpr c51
             have c51b1 : (((rdOf ByteArray.empty t289 x13_3).size : Int) != 2) = false := bne_eq_false_iff_eq.mpr c51
             clear c51
             by_cases c52 : 0 < ((rdOf ByteArray.empty t289 x13_3).size : Int)
             ·
              rw [if_pos c52] at H
              have c52b0 : decide (0 < ((rdOf ByteArray.empty t289 x13_3).size : Int)) = true := decide_eq_true c52
              have c52b1 : decide (0 < (rdOf ByteArray.empty t289 x13_3).size) = true := decide_eq_true (by omega)
              clear c52
              replace H := Option.bind_eq_some_iff.mp H
              obtain ⟨t295, A540, H⟩ := H
              replace H : (if t295 < 0 then (turnoutref01_bytes.j4 k3 x6_3 t289 x13_3 true) else (if 1 < ((rdOf ByteArray.empty t289 x13_3).size : Int) then ((turnoutref01_worth.f k3 (bt (rdOf ByteArray.empty t289 x13_3) 1) 16).bind fun t297 => (turnoutref01_bytes.j4 k3 x6_3 t289 x13_3 (decide (t297 < 0)))) else (none))) = some (r1, r2) := H
              have A54 := Aside0.mk A540
              clear A540
              by_cases c55 : t295 < 0
              ·
               rw [if_pos c55] at H
               have c55b0 : decide (t295 < 0) = true := decide_eq_true c55
               clear c55
               have H' := Aside0.mk H
               clear H
               have p293 : 0 ≤ (x13_3 : Int) := of_decide_eq_true (by first | (with_reducible assumption) | assumption)
               have q293 : x13_3 < (t289.length : Int) := of_decide_eq_true (by first | (with_reducible assumption) | assumption)
               obtain ⟨ad293, e293, hx293_0⟩ := Kd.at_string (Kd.R_reads' HO_12.out).2.2 x13_3 p293 q293
               cases e293
               replace p293 := eq_true p293
               replace q293 := eq_true q293
               have p294 : 0 ≤ (x13_3 : Int) := of_decide_eq_true (by first | (with_reducible assumption) | assumption)
               have q294 : x13_3 < (t289.length : Int) := of_decide_eq_true (by first | (with_reducible assumption) | assumption)
               obtain ⟨ad294, e294, hx294_0⟩ := Kd.at_string (Kd.R_reads' HO_12.out).2.2 x13_3 p294 q294
               obtain rfl : ad293 = ad294 := (by injection e294)
               replace p294 := eq_true p294
               replace q294 := eq_true q294
               have p53 : 0 ≤ (0 : Int) := (by omega)
               have q53 : 0 < (rdOf ByteArray.empty t289 x13_3).size := (by have : (0 : Int) < ((rdOf ByteArray.empty t289 x13_3).size : Int) := of_decide_eq_true (by first | (with_reducible assumption) | assumption); omega)
               have hx53 : ∀ h : 0 < (rdOf ByteArray.empty t289 x13_3).size, (((rdOf ByteArray.empty t289 x13_3)[0]'h).toNat : Int) = bt (rdOf ByteArray.empty t289 x13_3) 0 := bt_at (rdOf ByteArray.empty t289 x13_3) 0
               clear p53
               have qi53 : (0 < ((rdOf ByteArray.empty t289 x13_3).size : Int)) = True := eq_true (of_decide_eq_true (by first | (with_reducible assumption) | assumption))
               replace q53 := eq_true q53
               go_wp2_with (first | (go_at_call 74; (with_reducible refine (turnoutref01_worth.calls k3 (bt (rdOf ByteArray.empty t289 x13_3) 0) 16 t295 _ A54.out).mono ?_); rintro e w' ⟨rfl, ⟨nd, rfl⟩⟩))
               go_meet
               case rel => exact ⟨_, (true), (by first | rfl | (simp; done) | (simp [*]; done)), H', ⟨by have := HJ3.out; have := HJ40.out; have := HK3.out; first | omega | exact Nat.le_refl _⟩, ⟨by (with_reducible repeat (first | apply Kd.R_alloc | apply Kd.R_drewN | apply Kd.R_drew)); exact HO_6.out⟩, ⟨by (with_reducible repeat (first | apply Kd.R_alloc | apply Kd.R_drewN | apply Kd.R_drew)); exact HO_12.out⟩, ⟨by repeat (first | (with_reducible first | exact HB.out | apply below_alloc | apply pw_below_drewN | apply below_drew1) | exact HB.out)⟩⟩
              ·
               rw [if_neg c55] at H
               have c55b0 : decide (t295 < 0) = false := decide_eq_false c55
               clear c55
               by_cases c56 : 1 < ((rdOf ByteArray.empty t289 x13_3).size : Int)
               ·
                rw [if_pos c56] at H
                have c56b0 : decide (1 < ((rdOf ByteArray.empty t289 x13_3).size : Int)) = true := decide_eq_true c56
                have c56b1 : decide (1 < (rdOf ByteArray.empty t289 x13_3).size) = true := decide_eq_true (by omega)
                clear c56
                replace H := Option.bind_eq_some_iff.mp H
                obtain ⟨t297, A580, H⟩ := H
                replace H : (turnoutref01_bytes.j4 k3 x6_3 t289 x13_3 (decide (t297 < 0))) = some (r1, r2) := H
                have A58 := Aside0.mk A580
                clear A580
                have H' := Aside0.mk H
                clear H
                have p293 : 0 ≤ (x13_3 : Int) := of_decide_eq_true (by first | (with_reducible assumption) | assumption)
                have q293 : x13_3 < (t289.length : Int) := of_decide_eq_true (by first | (with_reducible assumption) | assumption)
                obtain ⟨ad293, e293, hx293_0⟩ := Kd.at_string (Kd.R_reads' HO_12.out).2.2 x13_3 p293 q293
                cases e293
                replace p293 := eq_true p293
                replace q293 := eq_true q293
                have p294 : 0 ≤ (x13_3 : Int) := of_decide_eq_true (by first | (with_reducible assumption) | assumption)
                have q294 : x13_3 < (t289.length : Int) := of_decide_eq_true (by first | (with_reducible assumption) | assumption)
                obtain ⟨ad294, e294, hx294_0⟩ := Kd.at_string (Kd.R_reads' HO_12.out).2.2 x13_3 p294 q294
                obtain rfl : ad293 = ad294 := (by injection e294)
                replace p294 := eq_true p294
                replace q294 := eq_true q294
                have p53 : 0 ≤ (0 : Int) := (by omega)
                have q53 : 0 < (rdOf ByteArray.empty t289 x13_3).size := (by have : (0 : Int) < ((rdOf ByteArray.empty t289 x13_3).size : Int) := of_decide_eq_true (by first | (with_reducible assumption) | assumption); omega)
                have hx53 : ∀ h : 0 < (rdOf ByteArray.empty t289 x13_3).size, (((rdOf ByteArray.empty t289 x13_3)[0]'h).toNat : Int) = bt (rdOf ByteArray.empty t289 x13_3) 0 := bt_at (rdOf ByteArray.empty t289 x13_3) 0
                clear p53
                have qi53 : (0 < ((rdOf ByteArray.empty t289 x13_3).size : Int)) = True := eq_true (of_decide_eq_true (by first | (with_reducible assumption) | assumption))
                replace q53 := eq_true q53
                go_wp2_with (first | (go_at_call 74; (with_reducible refine (turnoutref01_worth.calls k3 (bt (rdOf ByteArray.empty t289 x13_3) 0) 16 t295 _ A54.out).mono ?_); rintro e w' ⟨rfl, ⟨nd, rfl⟩⟩; have p296 : 0 ≤ (x13_3 : Int) := of_decide_eq_true (by first | (with_reducible assumption) | assumption); have q296 : x13_3 < (t289.length : Int) := of_decide_eq_true (by first | (with_reducible assumption) | assumption); obtain ⟨ad296, e296, hx296_0⟩ := Kd.at_string (Kd.R_reads' HO_12.out).2.2 x13_3 p296 q296; obtain rfl : ad293 = ad296 := (by injection e296); replace p296 := eq_true p296; replace q296 := eq_true q296; have p57 : 0 ≤ (1 : Int) := (by omega); have q57 : 1 < (rdOf ByteArray.empty t289 x13_3).size := (by have : (1 : Int) < ((rdOf ByteArray.empty t289 x13_3).size : Int) := of_decide_eq_true (by first | (with_reducible assumption) | assumption); omega); have hx57 : ∀ h : 1 < (rdOf ByteArray.empty t289 x13_3).size, (((rdOf ByteArray.empty t289 x13_3)[1]'h).toNat : Int) = bt (rdOf ByteArray.empty t289 x13_3) 1 := bt_at (rdOf ByteArray.empty t289 x13_3) 1; clear p57; have qi57 : (1 < ((rdOf ByteArray.empty t289 x13_3).size : Int)) = True := eq_true (of_decide_eq_true (by first | (with_reducible assumption) | assumption)); replace q57 := eq_true q57) | (go_at_call 74; (with_reducible refine (turnoutref01_worth.calls k3 (bt (rdOf ByteArray.empty t289 x13_3) 1) 16 t297 _ A58.out).mono ?_); rintro e w' ⟨rfl, ⟨nd, rfl⟩⟩))
                go_meet
                case rel => exact ⟨_, (decide (t297 < 0)), (by first | rfl | (simp; done) | (simp [*]; done)), H', ⟨by have := HJ3.out; have := HJ40.out; have := HK3.out; first | omega | exact Nat.le_refl _⟩, ⟨by (with_reducible repeat (first | apply Kd.R_alloc | apply Kd.R_drewN | apply Kd.R_drew)); exact HO_6.out⟩, ⟨by (with_reducible repeat (first | apply Kd.R_alloc | apply Kd.R_drewN | apply Kd.R_drew)); exact HO_12.out⟩, ⟨by repeat (first | (with_reducible first | exact HB.out | apply below_alloc | apply pw_below_drewN | apply below_drew1) | exact HB.out)⟩⟩
               ·
                rw [if_neg c56] at H
                exact absurd H (by simp)
             ·
              rw [if_neg c52] at H
              exact absurd H (by simp)
            ·
             rw [if_neg c51] at H
             have c51b0 : (((rdOf ByteArray.empty t289 x13_3).size : Int) == 2) = false := beq_eq_false_iff_ne.mpr c51
             have c51b1 : (((rdOf ByteArray.empty t289 x13_3).size : Int) != 2) = true := bne_iff_ne.mpr c51
             have H' := Aside0.mk H
             clear H
             have p293 : 0 ≤ (x13_3 : Int) := of_decide_eq_true (by first | (with_reducible assumption) | assumption)
             have q293 : x13_3 < (t289.length : Int) := of_decide_eq_true (by first | (with_reducible assumption) | assumption)
             obtain ⟨ad293, e293, hx293_0⟩ := Kd.at_string (Kd.R_reads' HO_12.out).2.2 x13_3 p293 q293
             cases e293
             replace p293 := eq_true p293
             replace q293 := eq_true q293
             go_wp2
             go_meet
             case rel => exact ⟨_, (true), (by first | rfl | (simp; done) | (simp [*]; done)), H', ⟨by have := HJ3.out; have := HJ40.out; have := HK3.out; first | omega | exact Nat.le_refl _⟩, ⟨by (with_reducible repeat (first | apply Kd.R_alloc | apply Kd.R_drewN | apply Kd.R_drew)); exact HO_6.out⟩, ⟨by (with_reducible repeat (first | apply Kd.R_alloc | apply Kd.R_drewN | apply Kd.R_drew)); exact HO_12.out⟩, ⟨by repeat (first | (with_reducible first | exact HB.out | apply below_alloc | apply pw_below_drewN | apply below_drew1) | exact HB.out)⟩⟩
           ·
            rw [if_neg c50] at H
            exact absurd H (by simp)
          case rest =>
           clear HC48
           try clear c1
           try clear c2
           try clear p2
           try clear q2
           try clear hx2
           try clear hcv3
           try clear c4
           try clear c5
           try clear p5
           try clear q5
           try clear hx5
           try clear qi5
           try clear c6
           try clear c6b0
           try clear c6b1
           try clear p6
           try clear c7
           try clear c9
           try clear c10
           try clear c10b0
           try clear c11
           try clear c11b0
           try clear c12
           try clear c12b0
           try clear c14
           try clear c15
           try clear c17
           try clear c17b0
           try clear c23
           try clear p27
           try clear q27
           try clear hx27
           try clear p29
           try clear q29
           try clear hx29
           try clear hcv39
           try clear c44
           try clear c46
           try clear c47
           try clear c47b0
           try clear c50
           try clear c50b0
           try clear c51
           try clear c51b0
           try clear c51b1
           try clear c52
           try clear c52b0
           try clear c52b1
           try clear p53
           try clear q53
           try clear hx53
           try clear qi53
           try clear c55
           try clear c55b0
           try clear c56
           try clear c56b0
           try clear c56b1
           try clear p57
           try clear q57
           try clear hx57
           try clear qi57
           try clear hcz21_0
           try clear hcz21_1
           try clear hcz27_0
           try clear hcz27_1
           try clear hcz29_0
           try clear hcz29_1
           try clear hcz34_0
           try clear hcz34_1
           try clear hcz38_0
           try clear hcz38_1
           try clear hfz21_0
           try clear hfz21_1
           try clear hfz27_0
           try clear hfz27_1
           try clear hfz29_0
           try clear hfz29_1
           try clear hfz34_0
           try clear hfz34_1
           try clear hfz38_0
           try clear hfz38_1
           try clear hx279_0
           try clear hx293_0
           try clear hx294_0
           try clear hx296_0
           try clear p2
           try clear p27
           try clear p279
           try clear p293
           try clear p294
           try clear p296
           try clear p53
           try clear p57
           try clear p6
           try clear q2
           try clear q27
           try clear q279
           try clear q293
           try clear q294
           try clear q296
           try clear q53
           try clear q57
           obtain ⟨kq, x97_47, rfl, HA, HJ47, HO_6, HO_12, HB⟩ := hcut
           cases kq with
           | zero => exact absurd HA.out (by simp [turnoutref01_bytes.j4])
           | succ kj47 =>
            have H := HA.out
            clear HA
            simp only [turnoutref01_bytes.j4] at H
            by_cases c59 : x97_47 = true
            ·
             subst c59
             have H1 : (some ((⟨#[]⟩ : ByteArray), false)) = some (r1, r2) := by rw [if_pos rfl] at H; exact H
             clear H
             have H := H1
             clear H1
             simp only [Option.some.injEq, Prod.mk.injEq] at H
             obtain ⟨rfl, rfl⟩ := H
             go_wp2
             go_ret2
             exact ⟨by first | rfl | (simp [errW_none, errW_some] <;> rfl) | (simp [*, errW_none, errW_some] <;> rfl), by repeat (first | (with_reducible first | exact HB.out | apply below_alloc | apply pw_below_drewN | apply below_drew1) | exact HB.out)⟩
            ·
             replace c59 := Bool.eq_false_iff.mpr c59
             subst c59
             have H1 : (if 0 ≤ x13_3 then (if x13_3 < (t289.length : Int) then (if 0 < ((rdOf ByteArray.empty t289 x13_3).size : Int) then ((turnoutref01_worth.f kj47 (bt (rdOf ByteArray.empty t289 x13_3) 0) 16).bind fun t299 => (if 1 < ((rdOf ByteArray.empty t289 x13_3).size : Int) then ((turnoutref01_worth.f kj47 (bt (rdOf ByteArray.empty t289 x13_3) 1) 16).bind fun t301 => (if x6_3.length < 140737488355328 then (turnoutref01_bytes.l1 kj47 (x6_3 ++ [(wrap64 ((wrap64 (16 * t299)) + t301)) % 256]) t289 (wrap64 (x13_3 + 1))) else (none))) else (none))) else (none)) else (none)) else (none)) = some (r1, r2) := by rw [if_neg (show ¬ (false = true) by decide)] at H; exact H
             clear H
             have H := H1
             clear H1
             by_cases c60 : 0 ≤ x13_3
             ·
              rw [if_pos c60] at H
              have c60b0 : decide (0 ≤ x13_3) = true := decide_eq_true c60
              clear c60
              by_cases c61 : x13_3 < (t289.length : Int)
              ·
               rw [if_pos c61] at H
               have c61b0 : decide (x13_3 < (t289.length : Int)) = true := decide_eq_true c61
               clear c61
               by_cases c62 : 0 < ((rdOf ByteArray.empty t289 x13_3).size : Int)
               ·
                rw [if_pos c62] at H
                have c62b0 : decide (0 < ((rdOf ByteArray.empty t289 x13_3).size : Int)) = true := decide_eq_true c62
                have c62b1 : decide (0 < (rdOf ByteArray.empty t289 x13_3).size) = true := decide_eq_true (by omega)
                clear c62
                replace H := Option.bind_eq_some_iff.mp H
                obtain ⟨t299, A640, H⟩ := H
                replace H : (if 1 < ((rdOf ByteArray.empty t289 x13_3).size : Int) then ((turnoutref01_worth.f kj47 (bt (rdOf ByteArray.empty t289 x13_3) 1) 16).bind fun t301 => (if x6_3.length < 140737488355328 then (turnoutref01_bytes.l1 kj47 (x6_3 ++ [(wrap64 ((wrap64 (16 * t299)) + t301)) % 256]) t289 (wrap64 (x13_3 + 1))) else (none))) else (none)) = some (r1, r2) := H
                have A64 := Aside0.mk A640
                clear A640
                by_cases c65 : 1 < ((rdOf ByteArray.empty t289 x13_3).size : Int)
                ·
                 rw [if_pos c65] at H
                 have c65b0 : decide (1 < ((rdOf ByteArray.empty t289 x13_3).size : Int)) = true := decide_eq_true c65
                 have c65b1 : decide (1 < (rdOf ByteArray.empty t289 x13_3).size) = true := decide_eq_true (by omega)
                 clear c65
                 replace H := Option.bind_eq_some_iff.mp H
                 obtain ⟨t301, A670, H⟩ := H
                 replace H : (if x6_3.length < 140737488355328 then (turnoutref01_bytes.l1 kj47 (x6_3 ++ [(wrap64 ((wrap64 (16 * t299)) + t301)) % 256]) t289 (wrap64 (x13_3 + 1))) else (none)) = some (r1, r2) := H
                 have A67 := Aside0.mk A670
                 clear A670
                 by_cases c68 : x6_3.length < 140737488355328
                 ·
                  rw [if_pos c68] at H
                  have LMc68 := Aside0.mk c68
                  clear c68
                  obtain ⟨y302, hy302⟩ : ∃ y_ : List Int, y_ = (x6_3 ++ [(wrap64 ((wrap64 (16 * t299)) + t301)) % 256]) := ⟨_, rfl⟩
                  replace H : (turnoutref01_bytes.l1 kj47 y302 t289 (wrap64 (x13_3 + 1))) = some (r1, r2) := by first | (rw [hy302]; with_reducible exact H) | (have H2_ := (Option.bind_some _ _).symm.trans H; rw [hy302]; with_reducible exact H2_) | (have H2_ := (Option.bind_some _ _).symm.trans H; with_reducible exact H2_) | with_reducible exact H | (rw [hy302]; exact H) | exact H
                  have Ny302 := Aside0.mk hy302
                  clear hy302
                  have H' := Aside0.mk H
                  clear H
                  try go_wp2
                  have n0_ := Aside0.mk (Kd.R_drew HO_6.out)
                  have n1_ := Aside0.mk (Kd.R_drew HO_12.out)
                  have n2_ := Aside0.mk (below_drew1 HB.out)
                  clear HO_6
                  clear HO_12
                  clear HB
                  have HO_6 := n0_
                  have HO_12 := n1_
                  have HB := n2_
                  clear n0_ n1_ n2_
                  have p298 : 0 ≤ (x13_3 : Int) := of_decide_eq_true (by first | (with_reducible assumption) | assumption)
                  have q298 : x13_3 < (t289.length : Int) := of_decide_eq_true (by first | (with_reducible assumption) | assumption)
                  obtain ⟨ad298, e298, hx298_0⟩ := Kd.at_string (Kd.R_reads' HO_12.out).2.2 x13_3 p298 q298
                  cases e298
                  replace p298 := eq_true p298
                  replace q298 := eq_true q298
                  have p63 : 0 ≤ (0 : Int) := (by omega)
                  have q63 : 0 < (rdOf ByteArray.empty t289 x13_3).size := (by have : (0 : Int) < ((rdOf ByteArray.empty t289 x13_3).size : Int) := of_decide_eq_true (by first | (with_reducible assumption) | assumption); omega)
                  have hx63 : ∀ h : 0 < (rdOf ByteArray.empty t289 x13_3).size, (((rdOf ByteArray.empty t289 x13_3)[0]'h).toNat : Int) = bt (rdOf ByteArray.empty t289 x13_3) 0 := bt_at (rdOf ByteArray.empty t289 x13_3) 0
                  clear p63
                  have qi63 : (0 < ((rdOf ByteArray.empty t289 x13_3).size : Int)) = True := eq_true (of_decide_eq_true (by first | (with_reducible assumption) | assumption))
                  replace q63 := eq_true q63
                  have p300 : 0 ≤ (x13_3 : Int) := of_decide_eq_true (by first | (with_reducible assumption) | assumption)
                  have q300 : x13_3 < (t289.length : Int) := of_decide_eq_true (by first | (with_reducible assumption) | assumption)
                  obtain ⟨ad300, e300, hx300_0⟩ := Kd.at_string (Kd.R_reads' HO_12.out).2.2 x13_3 p300 q300
                  obtain rfl : ad298 = ad300 := (by injection e300)
                  replace p300 := eq_true p300
                  replace q300 := eq_true q300
                  have p66 : 0 ≤ (1 : Int) := (by omega)
                  have q66 : 1 < (rdOf ByteArray.empty t289 x13_3).size := (by have : (1 : Int) < ((rdOf ByteArray.empty t289 x13_3).size : Int) := of_decide_eq_true (by first | (with_reducible assumption) | assumption); omega)
                  have hx66 : ∀ h : 1 < (rdOf ByteArray.empty t289 x13_3).size, (((rdOf ByteArray.empty t289 x13_3)[1]'h).toNat : Int) = bt (rdOf ByteArray.empty t289 x13_3) 1 := bt_at (rdOf ByteArray.empty t289 x13_3) 1
                  clear p66
                  have qi66 : (1 < ((rdOf ByteArray.empty t289 x13_3).size : Int)) = True := eq_true (of_decide_eq_true (by first | (with_reducible assumption) | assumption))
                  replace q66 := eq_true q66
                  refine start_ (n := 19) (S := fun w' => w'.cell? (ad298.add (x13_3).toNat) = some (.string (rdOf ByteArray.empty t289 x13_3)) ∧ w'.cell? (ad298.add (x13_3).toNat) = some (.string (rdOf ByteArray.empty t289 x13_3))) (ds := [16, 17]) #[false, false, false, false, false, false, false, false, false, false, false, false, false, false, false, false, false, false, false] (by kernel_rfl) rfl rfl ⟨hx298_0, hx300_0⟩ (fun hHeld => ?_); refine with_tabW turnoutref01_bytes.tab20 turnoutref01_bytes.bits20 (fun HT_ HW_ => ?_)
                  generalize wc.drew = w69 at HO_6 HO_12 HB hx298_0 hx300_0 hHeld ⊢
                  refine pure_ (i := 0) (N := some 98) (v := ?_) (a' := ?_) #[true, false, false, false, false, false, false, false, false, false, false, false, false, false, false, false, false, false, false] rfl rfl (any_of HT_.out (by kernel_rfl)) (fun _ _ _ h => h) (Or.inl ⟨by rfl, ?_⟩) ?_ ?_
                  rotate_left
                  ·
                   intro w'
                   go_simp
                   with_reducible rfl
                  rotate_left
                  ·
                   simp only [Act.put, List.setIfInBounds_toArray, List.set_cons_zero, List.set_cons_succ, i64_w, i32_w]
                   rfl
                  refine pure_ (i := 1) (N := some 99) (v := ?_) (a' := ?_) #[true, true, false, false, false, false, false, false, false, false, false, false, false, false, false, false, false, false, false] rfl rfl (any_of HT_.out (by kernel_rfl)) (fun _ _ _ h => h) (Or.inl ⟨by rfl, ?_⟩) ?_ ?_
                  rotate_left
                  ·
                   intro w'
                   go_simp
                   with_reducible rfl
                  rotate_left
                  ·
                   simp only [Act.put, List.setIfInBounds_toArray, List.set_cons_zero, List.set_cons_succ, i64_w, i32_w]
                   rfl
                  refine pure_ (i := 2) (N := some 100) (v := ?_) (a' := ?_) #[true, true, true, false, false, false, false, false, false, false, false, false, false, false, false, false, false, false, false] rfl rfl (any_of HT_.out (by kernel_rfl)) (fun _ _ _ h => h) (Or.inl ⟨by rfl, ?_⟩) ?_ ?_
                  rotate_left
                  ·
                   intro w'
                   go_simp
                   with_reducible rfl
                  rotate_left
                  ·
                   simp only [Act.put, List.setIfInBounds_toArray, List.set_cons_zero, List.set_cons_succ, i64_w, i32_w]
                   rfl
                  refine pure_ (i := 3) (N := some 101) (v := ?_) (a' := ?_) #[true, true, true, true, false, false, false, false, false, false, false, false, false, false, false, false, false, false, false] rfl rfl (any_of HT_.out (by kernel_rfl)) (fun _ _ _ h => h) (Or.inl ⟨by rfl, ?_⟩) ?_ ?_
                  rotate_left
                  ·
                   intro w'
                   go_simp
                   with_reducible rfl
                  rotate_left
                  ·
                   simp only [Act.put, List.setIfInBounds_toArray, List.set_cons_zero, List.set_cons_succ, i64_w, i32_w]
                   rfl
                  refine pure_ (i := 8) (N := some 106) (v := ?_) (a' := ?_) #[true, true, true, true, false, false, false, false, true, false, false, false, false, false, false, false, false, false, false] rfl rfl (any_of HT_.out (by kernel_rfl)) (fun _ _ _ h => h) (Or.inl ⟨by rfl, ?_⟩) ?_ ?_
                  rotate_left
                  ·
                   intro w'
                   go_simp
                   with_reducible rfl
                  rotate_left
                  ·
                   simp only [Act.put, List.setIfInBounds_toArray, List.set_cons_zero, List.set_cons_succ, i64_w, i32_w]
                   rfl
                  refine pure_ (i := 9) (N := some 107) (v := ?_) (a' := ?_) #[true, true, true, true, false, false, false, false, true, true, false, false, false, false, false, false, false, false, false] rfl rfl (any_of HT_.out (by kernel_rfl)) (fun _ _ _ h => h) (Or.inl ⟨by rfl, ?_⟩) ?_ ?_
                  rotate_left
                  ·
                   intro w'
                   go_simp
                   with_reducible rfl
                  rotate_left
                  ·
                   simp only [Act.put, List.setIfInBounds_toArray, List.set_cons_zero, List.set_cons_succ, i64_w, i32_w]
                   rfl
                  refine pure_ (i := 10) (N := some 108) (v := ?_) (a' := ?_) #[true, true, true, true, false, false, false, false, true, true, true, false, false, false, false, false, false, false, false] rfl rfl (any_of HT_.out (by kernel_rfl)) (fun _ _ _ h => h) (Or.inl ⟨by rfl, ?_⟩) ?_ ?_
                  rotate_left
                  ·
                   intro w'
                   go_simp
                   with_reducible rfl
                  rotate_left
                  ·
                   simp only [Act.put, List.setIfInBounds_toArray, List.set_cons_zero, List.set_cons_succ, i64_w, i32_w]
                   rfl
                  refine take_ (i := 4) (N := some 102) (v := ?_) (a' := ?_) #[true, true, true, true, true, false, false, false, true, true, true, false, false, false, false, false, false, false, false] rfl rfl (take_ofW HT_.out HW_.out (by kernel_rfl)) (fun _ _ _ h => h) (Or.inl ⟨by rfl, ?_⟩) hHeld ?_ ?_
                  rotate_left
                  ·
                   rintro w' ⟨s0, s1⟩
                   go_simp
                   with_reducible rfl
                  rotate_left
                  ·
                   simp only [Act.put, List.setIfInBounds_toArray, List.set_cons_zero, List.set_cons_succ, i64_w, i32_w]
                   rfl
                  refine take_ (i := 5) (N := some 103) (v := ?_) (a' := ?_) #[true, true, true, true, true, true, false, false, true, true, true, false, false, false, false, false, false, false, false] rfl rfl (take_ofW HT_.out HW_.out (by kernel_rfl)) (fun _ _ _ h => h) (Or.inl ⟨by rfl, ?_⟩) hHeld ?_ ?_
                  rotate_left
                  ·
                   rintro w' ⟨s0, s1⟩
                   go_simp
                   with_reducible rfl
                  rotate_left
                  ·
                   simp only [Act.put, List.setIfInBounds_toArray, List.set_cons_zero, List.set_cons_succ, i64_w, i32_w]
                   rfl
                  refine take_ (i := 11) (N := some 109) (v := ?_) (a' := ?_) #[true, true, true, true, true, true, false, false, true, true, true, true, false, false, false, false, false, false, false] rfl rfl (take_ofW HT_.out HW_.out (by kernel_rfl)) (fun _ _ _ h => h) (Or.inl ⟨by rfl, ?_⟩) hHeld ?_ ?_
                  rotate_left
                  ·
                   rintro w' ⟨s0, s1⟩
                   go_simp
                   with_reducible rfl
                  rotate_left
                  ·
                   simp only [Act.put, List.setIfInBounds_toArray, List.set_cons_zero, List.set_cons_succ, i64_w, i32_w]
                   rfl
                  refine take_ (i := 12) (N := some 110) (v := ?_) (a' := ?_) #[true, true, true, true, true, true, false, false, true, true, true, true, true, false, false, false, false, false, false] rfl rfl (take_ofW HT_.out HW_.out (by kernel_rfl)) (fun _ _ _ h => h) (Or.inl ⟨by rfl, ?_⟩) hHeld ?_ ?_
                  rotate_left
                  ·
                   rintro w' ⟨s0, s1⟩
                   go_simp
                   with_reducible rfl
                  rotate_left
                  ·
                   simp only [Act.put, List.setIfInBounds_toArray, List.set_cons_zero, List.set_cons_succ, i64_w, i32_w]
                   rfl
                  refine one_ (i := 6) (N := some 104) #[true, true, true, true, true, true, true, false, true, true, true, true, true, false, false, false, false, false, false] rfl rfl (one_of HT_.out (by kernel_rfl)) (by decide) (fun K hK => ?_)
                  refine goes_ Tryd.func74 (by kernel_rfl) rfl #[.int .u8 (bt (rdOf ByteArray.empty t289 x13_3) 0), .int .i64 16] (by rfl) rfl rfl (by (try simp only [List.map_toArray, List.map_cons, List.map_nil]); first | done | rfl | (simp only [List.length_drop, List.length_take]; rfl)) ?_
                  with_reducible refine (turnoutref01_worth.calls kj47 (bt (rdOf ByteArray.empty t289 x13_3) 0) 16 t299 _ A64.out).mono ?_
                  rintro e w' ⟨rfl, ⟨nd, rfl⟩⟩
                  refine ⟨_, rfl, ?_⟩
                  refine hK.out _ _ ⟨hHeld.1, hHeld.2⟩ (fun hHeld => ?_)
                  clear hK K
                  refine norm_ (a' := ?_) ?_ ?_
                  rotate_left
                  ·
                   show Act.put _ (some 104) _ = _
                   simp only [Act.put, List.setIfInBounds_toArray, List.set_cons_zero, List.set_cons_succ, i64_w, i32_w]
                   rfl
                  refine pure_ (i := 7) (N := some 105) (v := ?_) (a' := ?_) #[true, true, true, true, true, true, true, true, true, true, true, true, true, false, false, false, false, false, false] rfl rfl (any_of HT_.out (by kernel_rfl)) (fun _ _ _ h => h) (Or.inl ⟨by rfl, ?_⟩) ?_ ?_
                  rotate_left
                  ·
                   intro w'
                   go_simp
                   with_reducible rfl
                  rotate_left
                  ·
                   simp only [Act.put, List.setIfInBounds_toArray, List.set_cons_zero, List.set_cons_succ, i64_w, i32_w]
                   rfl
                  refine one_ (i := 13) (N := some 111) #[true, true, true, true, true, true, true, true, true, true, true, true, true, true, false, false, false, false, false] rfl rfl (one_of HT_.out (by kernel_rfl)) (by decide) (fun K hK => ?_)
                  refine goes_ Tryd.func74 (by kernel_rfl) rfl #[.int .u8 (bt (rdOf ByteArray.empty t289 x13_3) 1), .int .i64 16] (by rfl) rfl rfl (by (try simp only [List.map_toArray, List.map_cons, List.map_nil]); first | done | rfl | (simp only [List.length_drop, List.length_take]; rfl)) ?_
                  with_reducible refine (turnoutref01_worth.calls kj47 (bt (rdOf ByteArray.empty t289 x13_3) 1) 16 t301 _ A67.out).mono ?_
                  rintro e w' ⟨rfl, ⟨nd, rfl⟩⟩
                  refine ⟨_, rfl, ?_⟩
                  refine hK.out _ _ ⟨hHeld.1, hHeld.2⟩ (fun hHeld => ?_)
                  clear hK K
                  refine norm_ (a' := ?_) ?_ ?_
                  rotate_left
                  ·
                   show Act.put _ (some 111) _ = _
                   simp only [Act.put, List.setIfInBounds_toArray, List.set_cons_zero, List.set_cons_succ, i64_w, i32_w]
                   rfl
                  refine pure_ (i := 14) (N := some 112) (v := ?_) (a' := ?_) #[true, true, true, true, true, true, true, true, true, true, true, true, true, true, true, false, false, false, false] rfl rfl (any_of HT_.out (by kernel_rfl)) (fun _ _ _ h => h) (Or.inl ⟨by rfl, ?_⟩) ?_ ?_
                  rotate_left
                  ·
                   intro w'
                   go_simp
                   with_reducible rfl
                  rotate_left
                  ·
                   simp only [Act.put, List.setIfInBounds_toArray, List.set_cons_zero, List.set_cons_succ, i64_w, i32_w]
                   rfl
                  refine pure_ (i := 15) (N := some 113) (v := ?_) (a' := ?_) #[true, true, true, true, true, true, true, true, true, true, true, true, true, true, true, true, false, false, false] rfl rfl (any_of HT_.out (by kernel_rfl)) (fun _ _ _ h => h) (Or.inl ⟨by rfl, ?_⟩) ?_ ?_
                  rotate_left
                  ·
                   intro w'
                   go_simp
                   with_reducible rfl
                  rotate_left
                  ·
                   simp only [Act.put, List.setIfInBounds_toArray, List.set_cons_zero, List.set_cons_succ, i64_w, i32_w]
                   rfl
                  refine last_ (i := 16) (N := some 114) #[true, true, true, true, true, true, true, true, true, true, true, true, true, true, true, true, true, false, false] rfl rfl (one_of HT_.out (by kernel_rfl)) (by decide) (fun K hK => ?_)
                  refine value_ (w1 := ?_) (v := ?_) (by rfl) rfl ?_ ?_
                  rotate_left 2
                  ·
                   go_simp
                   constructor
                   ·
                    rfl
                   ·
                    rfl
                  refine hK.out _ _ ?_
                  clear hK K
                  refine norm_ (a' := ?_) ?_ ?_
                  rotate_left
                  ·
                   show Act.put _ (some 114) _ = _
                   simp only [Act.put, List.setIfInBounds_toArray, List.set_cons_zero, List.set_cons_succ, i64_w, i32_w]
                   rfl
                  refine last_ (i := 17) (N := some 115) #[true, true, true, true, true, true, true, true, true, true, true, true, true, true, true, true, true, true, false] rfl rfl (one_of HT_.out (by kernel_rfl)) (by decide) (fun K hK => ?_)
                  refine Kd.R_append_step (Kd.int .u8) (w0 := w) w.heap.size (by rfl) (.tmp 98) (.tmp 114) 50 5 (.int .u8 0) 1 rfl Tryd.underlying50 info5 rfl (by decide) (by omega) u6 x6_3 ((wrap64 ((wrap64 (16 * t299)) + t301)) % 256) [.int .u8 ((wrap64 ((wrap64 (16 * t299)) + t301)) % 256)] (fun _ => True) (fun _ => False) rfl rfl ?aP (fun _ hk => hk.elim) ?aF ?aO ?aB ?aS ?aL ?_
                  (case aP => exact rfl)
                  (case aB => exact (by repeat (first | (with_reducible first | exact HB.out | apply below_alloc | apply pw_below_drewN | apply below_drew1) | exact HB.out)))
                  (case aF => exact (fun _ _ => trivial))
                  (case aO => exact (by (with_reducible repeat (first | apply Kd.R_alloc | apply Kd.R_drewN | apply Kd.R_drew)); exact HO_6.out))
                  (case aS => exact (below_size (by repeat (first | (with_reducible first | exact HB.out | apply below_alloc | apply pw_below_drewN | apply below_drew1) | exact HB.out))))
                  (case aL => have := LMc68.out; omega)
                  intro v303 w70 ho hb hg hat
                  rw [← Ny302.out] at ho
                  have n0_ := Aside0.mk (Kd.R_over' (by (with_reducible repeat (first | apply Kd.R_alloc | apply Kd.R_drewN | apply Kd.R_drew)); exact HO_12.out) (Kd.R_typed (by (with_reducible repeat (first | apply Kd.R_alloc | apply Kd.R_drewN | apply Kd.R_drew)); exact HO_6.out)) (by decide) hg)
                  have n1_ := Aside0.mk (hb)
                  have n2_ := Aside0.mk (ho)
                  clear HO_12
                  clear HB
                  clear HO_6
                  have HO_12 := n0_
                  have HB := n1_
                  have HO304 := n2_
                  clear n0_ n1_ n2_
                  clear ho hb hg hat
                  refine hK.out _ _ ?_
                  clear hK K
                  refine norm_ (a' := ?_) ?_ ?_
                  rotate_left
                  ·
                   show Act.put _ (some 115) _ = _
                   simp only [Act.put, List.setIfInBounds_toArray, List.set_cons_zero, List.set_cons_succ, i64_w, i32_w]
                   rfl
                  refine pure_ (i := 18) (N := some 6) (v := ?_) (a' := ?_) #[true, true, true, true, true, true, true, true, true, true, true, true, true, true, true, true, true, true, true] rfl rfl (any_of HT_.out (by kernel_rfl)) (fun _ _ _ h => h) (Or.inl ⟨by rfl, ?_⟩) ?_ ?_
                  rotate_left
                  ·
                   intro w'
                   go_simp
                   with_reducible rfl
                  rotate_left
                  ·
                   simp only [Act.put, List.setIfInBounds_toArray, List.set_cons_zero, List.set_cons_succ, i64_w, i32_w]
                   rfl
                  refine done_ (done_of HT_.out (by kernel_rfl)) ?_
                  try go_wp2
                  go_roundg kj47
                  case measure => have := HJ3.out; have := HJ40.out; have := HK3.out; have := HJ47.out; omega
                  case rel => exact ⟨(y302), (wrap64 (x13_3 + 1)), (by first | rfl | (simp; done) | (simp [*]; done)), H', ⟨by have := HJ3.out; have := HJ40.out; have := HK3.out; have := HJ47.out; omega⟩, ⟨by (with_reducible repeat (first | apply Kd.R_alloc | apply Kd.R_drewN | apply Kd.R_drew)); exact HO304.out⟩, ⟨by (with_reducible repeat (first | apply Kd.R_alloc | apply Kd.R_drewN | apply Kd.R_drew)); exact HO_12.out⟩, ⟨by repeat (first | (with_reducible first | exact HB.out | apply below_alloc | apply pw_below_drewN | apply below_drew1) | exact HB.out)⟩⟩
                 ·
                  rw [if_neg c68] at H
                  exact absurd H (by simp)
                ·
                 rw [if_neg c65] at H
                 exact absurd H (by simp)
               ·
                rw [if_neg c62] at H
                exact absurd H (by simp)
              ·
               rw [if_neg c61] at H
               exact absurd H (by simp)
             ·
              rw [if_neg c60] at H
              exact absurd H (by simp)
         ·
          rw [if_neg c47] at H
          have c47b0 : decide (x13_3 < (t289.length : Int)) = false := decide_eq_false c47
          clear c47
          simp only [Option.some.injEq, Prod.mk.injEq] at H
          obtain ⟨rfl, rfl⟩ := H
          obtain ⟨Ao71, co71, eo71⟩ := Kd.R_slice HO_12.out
          subst eo71
          have hcv72 := own_string (P := Tryd.prog) Tryd.underlying50 Tryd.underlying5 Tryd.underlying9 (Kd.own_of_R HO_6.out)
          go_wp2
          go_ret2
          exact ⟨by first | rfl | (simp [errW_none, errW_some] <;> rfl) | (simp [*, errW_none, errW_some] <;> rfl), by repeat (first | (with_reducible first | exact HB.out | apply below_alloc | apply pw_below_drewN | apply below_drew1) | exact HB.out)⟩
end Go.Proofs.YtofnhgpiipmegaaDoor.PV
