/- ### value_Text: function 9 -/
import Derived.Test.YtofnhgpiipmegaaDoorPVx0
import Derived.Test.YtofnhgpiipmegaaDoorPVx2
import Derived.Test.YtofnhgpiipmegaaDoorHDigits
import Derived.Test.YtofnhgpiipmegaaDoorHJoin
-- Printed by this session's gprint.py (the kit's printer, with functions given by hand). Not trusted: Lean checks it.
namespace Go.Proofs.YtofnhgpiipmegaaDoor.PV
open Go.RowKit Go.Proofs.YtofnhgpiipmegaaDoorW.PrintWords Go.Proofs.YtofnhgpiipmegaaDoorW.PrintLast Go.Proofs.YtofnhgpiipmegaaDoorW.PrintMore
attribute [local go_sem] max2_int min2_int max_two min_two max_three min_three max_four min_four   -- for this text's walks alone
set_option linter.unusedVariables false
set_option linter.unusedSimpArgs false
theorem and15 (n : Nat) (h : n < 256) : Go.bits .and .u8 (n : Int) 15 = ((n % 16 : Nat) : Int) := by
 have h1 : (BitVec.ofInt 8 (n : Int)).toNat = n := by
  rw [BitVec.ofInt_natCast, BitVec.toNat_ofNat]; exact Nat.mod_eq_of_lt (by omega)
 show IntKind.u8.wrap ((BitVec.ofInt 8 (n : Int) &&& BitVec.ofInt 8 (15 : Int)).toNat : Int) = _
 rw [BitVec.toNat_and, h1, show (BitVec.ofInt 8 (15 : Int)).toNat = 2 ^ 4 - 1 from rfl, Nat.and_two_pow_sub_one_eq_mod]
 have e : ∀ x : Int, IntKind.u8.wrap x = x % 256 := fun x => rfl
 rw [e]
 omega
theorem conv2 (W : World) (x y : Int) : (convert 50 9 (.slice (some ⟨W.heap.size, 0, none⟩) 2 2)).run Tryd.prog (W.alloc (.cells #[.int .u8 x, .int .u8 y] 5)).drew = .ok (.string (strOfNums [x, y])) (W.alloc (.cells #[.int .u8 x, .int .u8 y] 5)).drew := by
 refine string_of_reads Tryd.underlying50 Tryd.underlying5 Tryd.underlying9 ⟨rfl, by decide, fun _ => ⟨_, rfl, fun j hj => ?_⟩⟩
 rw [Addr.add_lit]
 have hb := blk_new W (.cells #[.int .u8 x, .int .u8 y] 5)
 have hc : (W.alloc (.cells #[.int .u8 x, .int .u8 y] 5)).cell? ⟨W.heap.size, 0 + j, none⟩ = some (.int .u8 ([x, y].getD j 0)) := by
  rw [blk_cell hb]
  match j, hj with
  | 0, _ => rfl
  | 1, _ => rfl
 exact hc
section
variable {P : Program} {ops : Array Oper} {o : Oper} {a : Act} {Q : Exit → Act → World → Prop} {Kc : Act → World → Prop} {α : Type}
theorem R_append_stepW (d : Kd α) {w0 W W' : World} (base : Nat) {E : Prop} (hgd : o.guard = none) (s x : Operand) (t e : TypeId) (z : Value) (bytes : Nat)
  (ho : o.op = .call { callee := .builtin .append, args := #[s, x], argTypes := #[t, t] })
  (ht : P.underlying t = some (.slice e)) (hinfo : (P.info? e).map (fun i => (i.zero, i.size, i.bytes)) = some (some z, d.sz, bytes)) (hz : z.cells.size = d.sz) (hs0 : 0 < d.sz) (hb0 : 0 < bytes)
  (v : Value) (xs : List α) (p : α) (cs : List Value) (ok okp : Nat → Prop) (hs : a.eval s = v) (hx : a.eval x = .slice (some ⟨W.heap.size, 0, none⟩) 1 1) (hp : d.M W base okp p cs) (hokp : ∀ k, okp k → ok k ∧ some k ≠ v.ownBlock) (hfresh : ∀ k, W.heap.size ≤ k → ok k)
  (HO : d.R e W base ok v xs) (HB : Below base w0 W) (hbase : base ≤ W.heap.size) (hl : (xs.length + 1) * bytes ≤ 140737488355328) (hW : W' = W.alloc (.cells cs.toArray e))
  (h : ∀ v1 w1, d.R e w1 base ok v1 (xs ++ [p]) → Below base w0 w1 → W.grownBy w1 v.ownBlock → (v1.ownBlock = v.ownBlock ∨ ∃ b, v1.ownBlock = some b ∧ W.heap.size ≤ b) → Kc (a.put o.dst v1) w1) :
  if Region.wanted o (yielded ops a.tmps) = true then Oper.wp P o a W' Kc Q else E := by
 subst hW
 have hw : Region.wanted o (yielded ops a.tmps) = true := by simp [Region.wanted, hgd]
 rw [if_pos hw]
 have key := Kd.R_append_step (Q := Q) d base hw s x t e z bytes ho ht hinfo hz hs0 hb0 v xs p cs ok okp hs hx hp hokp hfresh HO HB hbase hl h
 rwa [if_pos hw] at key
end
/-- A byte as two sixteenths. -/
def hexB (b : Int) : ByteArray := strOfNums [signI (b / 16).toNat, signI (b % 16).toNat]
theorem hexB_eq (n : Nat) (h : n < 256) : strOfNums [signI ((n : Int) / 16).toNat, signI (Go.bits .and .u8 (n : Int) 15).toNat] = hexB (n : Int) := by
 unfold hexB; rw [and15 n h]; rfl
mutual
def value_Text.j0 : Nat → Int → Int → Bool → Int → Int → Option (ByteArray × Int)
 | 0, _, _, _, _, _ => none
 | k + 1, x1, x2, x12, x121000, x121001 => if x12 = true then (some ((⟨#[]⟩ : ByteArray), 1)) else ((value_has.f x1 x2).bind fun t121 => (if t121 = true then ((value_Fits.f x121000 x121001 x1).bind fun t122 => (if t122 = true then (if x2 = 1 then ((value_digits.f x121000 x121001 10).bind fun t123 => (some (t123, 0))) else (if x2 = 2 then ((value_digits.f x121000 x121001 16).bind fun t124 => (if 2 + t124.size ≤ 9223372036854775807 then (some ((⟨#[48, 120]⟩ : ByteArray) ++ t124, 0)) else (none))) else (if x2 = 3 then ((value_digits.f x121000 x121001 2).bind fun t125 => (if 2 + t125.size ≤ 9223372036854775807 then (some ((⟨#[48, 98]⟩ : ByteArray) ++ t125, 0)) else (none))) else ((value_Bytes.f k x121000 x121001 x1).bind fun bt126 => (value_Text.l0 k x2 bt126.1 ([] : List ByteArray) (bt126.1.size : Int) 0))))) else (some ((⟨#[]⟩ : ByteArray), 11)))) else (some ((⟨#[]⟩ : ByteArray), 10))))
def value_Text.l0 : Nat → Int → ByteArray → List ByteArray → Int → Int → Option (ByteArray × Int)
 | 0, _, _, _, _, _ => none
 | k + 1, x2, x8, x10, x51, x52 => if x52 < x51 then (if x2 = 4 then (if 0 ≤ x52 then (if x52 < (x8.size : Int) then ((value_digits.f 0 (IntKind.u64.wrap (bt x8 x52)) 10).bind fun t128 => (if x10.length < 8796093022208 then (value_Text.l0 k x2 x8 (x10 ++ [t128]) x51 (wrap64 (x52 + 1))) else (none))) else (none)) else (none)) else (if 0 ≤ x52 then (if x52 < (x8.size : Int) then (if x10.length < 8796093022208 then (value_Text.l0 k x2 x8 (x10 ++ [hexB (bt x8 x52)]) x51 (wrap64 (x52 + 1))) else (none)) else (none)) else (none))) else (if x2 = 4 then ((strings_Join.f x10 (⟨#[46]⟩ : ByteArray)).bind fun t132 => (some (t132, 0))) else ((strings_Join.f x10 (⟨#[58]⟩ : ByteArray)).bind fun t133 => (some (t133, 0))))
end
def value_Text.f (k : Nat) (a0_0 : Int) (a0_1 : Int) (a1 : Int) (a2 : Int) : Option (ByteArray × Int) := if a2 < 1 then (value_Text.j0 k a1 a2 true a0_0 a0_1) else (value_Text.j0 k a1 a2 (decide (a2 > 5)) a0_0 a0_1)
theorem value_Text.mono_l : ∀ k, (∀ y0 y1 y2 y3 y4, LeO (value_Text.j0 k y0 y1 y2 y3 y4) (value_Text.j0 (k + 1) y0 y1 y2 y3 y4)) ∧ (∀ y0 y1 y2 y3 y4, LeO (value_Text.l0 k y0 y1 y2 y3 y4) (value_Text.l0 (k + 1) y0 y1 y2 y3 y4))
 | 0 => ⟨fun _ _ _ _ _ r h => by simp [value_Text.j0] at h, fun _ _ _ _ _ r h => by simp [value_Text.l0] at h⟩
 | k + 1 => by
  obtain ⟨ih0, ih1⟩ := value_Text.mono_l k
  refine ⟨?_, ?_⟩
  ·
   intro y0 y1 y2 y3 y4
   unfold value_Text.j0
   repeat' first
   | (with_reducible exact ih0 _ _ _ _ _)
   | (with_reducible exact ih1 _ _ _ _ _)
   | (with_reducible exact value_Bytes.mono _ _ _ _)
   | (with_reducible exact LeO.refl _)
   | (with_reducible exact LeO.none _)
   | (with_reducible refine LeO.ite ?_ ?_)
   | (with_reducible refine LeO.bind ?_ (fun _ => ?_))
   | exact ih0 _ _ _ _ _
   | exact ih1 _ _ _ _ _
   | exact value_Bytes.mono _ _ _ _
   | exact LeO.none _
   | refine LeO.ite ?_ ?_
   | refine LeO.bind ?_ (fun _ => ?_)
  ·
   intro y0 y1 y2 y3 y4
   unfold value_Text.l0
   repeat' first
   | (with_reducible exact ih0 _ _ _ _ _)
   | (with_reducible exact ih1 _ _ _ _ _)
   | (with_reducible exact value_Bytes.mono _ _ _ _)
   | (with_reducible exact LeO.refl _)
   | (with_reducible exact LeO.none _)
   | (with_reducible refine LeO.ite ?_ ?_)
   | (with_reducible refine LeO.bind ?_ (fun _ => ?_))
   | exact ih0 _ _ _ _ _
   | exact ih1 _ _ _ _ _
   | exact value_Bytes.mono _ _ _ _
   | exact LeO.none _
   | refine LeO.ite ?_ ?_
   | refine LeO.bind ?_ (fun _ => ?_)
theorem value_Text.mono : ∀ a0 a1 a2 a3 k, LeO (value_Text.f k a0 a1 a2 a3) (value_Text.f (k + 1) a0 a1 a2 a3) := by
 intro a0 a1 a2 a3 k
 obtain ⟨ih0, ih1⟩ := value_Text.mono_l k
 unfold value_Text.f
 repeat' first
   | (with_reducible exact ih0 _ _ _ _ _)
   | (with_reducible exact ih1 _ _ _ _ _)
   | (with_reducible exact value_Bytes.mono _ _ _ _)
   | (with_reducible exact LeO.refl _)
   | (with_reducible exact LeO.none _)
   | (with_reducible refine LeO.ite ?_ ?_)
   | (with_reducible refine LeO.bind ?_ (fun _ => ?_))
   | exact ih0 _ _ _ _ _
   | exact ih1 _ _ _ _ _
   | exact value_Bytes.mono _ _ _ _
   | exact LeO.none _
   | refine LeO.ite ?_ ?_
   | refine LeO.bind ?_ (fun _ => ?_)
set_option maxHeartbeats 8000000 in
set_option maxRecDepth 100000 in
theorem value_Text.calls (k : Nat) (a0_0 : Int) (a0_1 : Int) (a1 : Int) (a2 : Int) (r1 : ByteArray) (r2 : Int) (w : World) (hG : GlobalsAt w) (h : value_Text.f k a0_0 a0_1 a1 a2 = some (r1, r2)) :
  Calls Tryd.prog 9 #[.agg #[.int .u64 a0_0, .int .u64 a0_1], .int .i64 a1, .int .i64 a2] w fun e w' => e = .returned (.tuple #[.string r1, .int .i64 r2]) ∧ Below w.heap.size w w' := by
 have HG := Aside0.mk hG
 clear hG
 have hu24 := Tryd.underlying24
 have HB := Aside0.mk (Below.refl w.heap.size w)
 have H : (if a2 < 1 then (value_Text.j0 k a1 a2 true a0_0 a0_1) else (value_Text.j0 k a1 a2 (decide (a2 > 5)) a0_0 a0_1)) = some (r1, r2) := h
 clear h
 have HC4 := Aside0.mk H
 clear H
 go_enter Tryd.func9, Tryd.ntmps9
 go_upto_region 1 with (first | ((with_reducible refine gate_dst (N := 3) rfl ?_); refine box_event ?hg (N := 3) ?hd (cs := #[.int .u64 a0_0, .int .u64 a0_1]) (t := 24) ?hr ?_; (case hd => rfl); (case hg => rfl); (case hr => first | (go_simp; done) | (go_simp; rfl)); intro gb120 hg w5 hbox hb; have n0_ := Aside0.mk (below_step (by repeat (first | (with_reducible first | exact HB.out | apply below_alloc | apply pw_below_drewN | apply below_drew1) | exact HB.out)) hb); have n1_ := Aside0.mk (hbox); have n2_ := Aside0.mk ((by rw [hg]; exact (below_size (by repeat (first | (with_reducible first | exact HB.out | apply below_alloc | apply pw_below_drewN | apply below_drew1) | exact HB.out))) : w.heap.size ≤ gb120)); have n3_ := Aside0.mk ((by rw [hg]; exact (below_size (by repeat (first | (with_reducible first | exact HB.out | apply below_alloc | apply pw_below_drewN | apply below_drew1) | exact HB.out))) : w.heap.size ≤ gb120)); clear HB; have HB := n0_; have BK120 := n1_; have GW120 := n2_; have GE120 := n3_; clear n0_ n1_ n2_ n3_; clear hb hbox hg))
 (try simp only [Act.put, List.setIfInBounds_toArray, List.set_cons_zero, List.set_cons_succ])
 go_cut [12] (fun v12 wc => ∃ (kq : Nat) (x12_3 : Bool), v12 = .bool x12_3 ∧ Aside0 (value_Text.j0 kq a1 a2 x12_3 a0_0 a0_1 = some (r1, r2)) ∧ Aside0 (kq ≤ k) ∧ Aside0 (wc.heap[gb120]? = some (.cells #[.int .u64 a0_0, .int .u64 a0_1] 24 (0, 0))) ∧ Aside0 (Below w.heap.size w wc))
 case first =>
  have H := HC4.out
  clear HC4
  by_cases c6 : a2 < 1
  ·
   rw [if_pos c6] at H
   have c6b0 : decide (a2 < 1) = true := decide_eq_true c6
   clear c6
   (first | rw [c6b0] | (simp only [i64_w, i32_w]; rw [c6b0]) | skip)
   have H' := Aside0.mk H
   clear H
   go_wp2
   go_meet
   case rel => exact ⟨_, (true), (by first | rfl | (simp; done) | (simp [*]; done)), H', ⟨by first | omega | exact Nat.le_refl _⟩, ⟨by (with_reducible repeat (first | refine blk_drewN ?_ _ | refine blk_drew ?_ | refine blk_alloc ?_ _)); exact BK120.out⟩, ⟨by repeat (first | (with_reducible first | exact HB.out | apply below_alloc | apply pw_below_drewN | apply below_drew1 | refine below_set ?_ GE120.out) | exact HB.out)⟩⟩
  ·
   rw [if_neg c6] at H
   have c6b0 : decide (a2 < 1) = false := decide_eq_false c6
   clear c6
   (first | rw [c6b0] | (simp only [i64_w, i32_w]; rw [c6b0]) | skip)
   have H' := Aside0.mk H
   clear H
   go_wp2
   go_meet
   case rel => exact ⟨_, (decide (a2 > 5)), (by first | rfl | (simp; done) | (simp [*]; done)), H', ⟨by first | omega | exact Nat.le_refl _⟩, ⟨by (with_reducible repeat (first | refine blk_drewN ?_ _ | refine blk_drew ?_ | refine blk_alloc ?_ _)); exact BK120.out⟩, ⟨by repeat (first | (with_reducible first | exact HB.out | apply below_alloc | apply pw_below_drewN | apply below_drew1 | refine below_set ?_ GE120.out) | exact HB.out)⟩⟩
 case rest =>
  clear HC4
  try clear p2
  try clear c6
  try clear c6b0
  obtain ⟨kq, x12_3, rfl, HA, HJ3, BK120, HB⟩ := hcut
  cases kq with
  | zero => exact absurd HA.out (by simp [value_Text.j0])
  | succ kj3 =>
   have H := HA.out
   clear HA
   simp only [value_Text.j0] at H
   by_cases c7 : x12_3 = true
   ·
    subst c7
    have H1 : (some ((⟨#[]⟩ : ByteArray), 1)) = some (r1, r2) := by rw [if_pos rfl] at H; exact H
    clear H
    have H := H1
    clear H1
    simp only [Option.some.injEq, Prod.mk.injEq] at H
    obtain ⟨rfl, rfl⟩ := H
    go_wp2
    go_ret2
    exact ⟨by first | rfl | (simp [errW_none, errW_some] <;> rfl) | (simp [*, errW_none, errW_some] <;> rfl), by repeat (first | (with_reducible first | exact HB.out | apply below_alloc | apply pw_below_drewN | apply below_drew1 | refine below_set ?_ GE120.out) | exact HB.out)⟩
   ·
    replace c7 := Bool.eq_false_iff.mpr c7
    subst c7
    have H1 : ((value_has.f a1 a2).bind fun t121 => (if t121 = true then ((value_Fits.f a0_0 a0_1 a1).bind fun t122 => (if t122 = true then (if a2 = 1 then ((value_digits.f a0_0 a0_1 10).bind fun t123 => (some (t123, 0))) else (if a2 = 2 then ((value_digits.f a0_0 a0_1 16).bind fun t124 => (if 2 + t124.size ≤ 9223372036854775807 then (some ((⟨#[48, 120]⟩ : ByteArray) ++ t124, 0)) else (none))) else (if a2 = 3 then ((value_digits.f a0_0 a0_1 2).bind fun t125 => (if 2 + t125.size ≤ 9223372036854775807 then (some ((⟨#[48, 98]⟩ : ByteArray) ++ t125, 0)) else (none))) else ((value_Bytes.f kj3 a0_0 a0_1 a1).bind fun bt126 => (value_Text.l0 kj3 a2 bt126.1 ([] : List ByteArray) (bt126.1.size : Int) 0))))) else (some ((⟨#[]⟩ : ByteArray), 11)))) else (some ((⟨#[]⟩ : ByteArray), 10)))) = some (r1, r2) := by rw [if_neg (show ¬ (false = true) by decide)] at H; exact H
    clear H
    have H := H1
    clear H1
    replace H := Option.bind_eq_some_iff.mp H
    obtain ⟨t121, A80, H⟩ := H
    replace H : (if t121 = true then ((value_Fits.f a0_0 a0_1 a1).bind fun t122 => (if t122 = true then (if a2 = 1 then ((value_digits.f a0_0 a0_1 10).bind fun t123 => (some (t123, 0))) else (if a2 = 2 then ((value_digits.f a0_0 a0_1 16).bind fun t124 => (if 2 + t124.size ≤ 9223372036854775807 then (some ((⟨#[48, 120]⟩ : ByteArray) ++ t124, 0)) else (none))) else (if a2 = 3 then ((value_digits.f a0_0 a0_1 2).bind fun t125 => (if 2 + t125.size ≤ 9223372036854775807 then (some ((⟨#[48, 98]⟩ : ByteArray) ++ t125, 0)) else (none))) else ((value_Bytes.f kj3 a0_0 a0_1 a1).bind fun bt126 => (value_Text.l0 kj3 a2 bt126.1 ([] : List ByteArray) (bt126.1.size : Int) 0))))) else (some ((⟨#[]⟩ : ByteArray), 11)))) else (some ((⟨#[]⟩ : ByteArray), 10))) = some (r1, r2) := H
    have A8 := Aside0.mk A80
    clear A80
    by_cases c9 : t121 = true
    ·
     subst c9
     have H1 : ((value_Fits.f a0_0 a0_1 a1).bind fun t122 => (if t122 = true then (if a2 = 1 then ((value_digits.f a0_0 a0_1 10).bind fun t123 => (some (t123, 0))) else (if a2 = 2 then ((value_digits.f a0_0 a0_1 16).bind fun t124 => (if 2 + t124.size ≤ 9223372036854775807 then (some ((⟨#[48, 120]⟩ : ByteArray) ++ t124, 0)) else (none))) else (if a2 = 3 then ((value_digits.f a0_0 a0_1 2).bind fun t125 => (if 2 + t125.size ≤ 9223372036854775807 then (some ((⟨#[48, 98]⟩ : ByteArray) ++ t125, 0)) else (none))) else ((value_Bytes.f kj3 a0_0 a0_1 a1).bind fun bt126 => (value_Text.l0 kj3 a2 bt126.1 ([] : List ByteArray) (bt126.1.size : Int) 0))))) else (some ((⟨#[]⟩ : ByteArray), 11)))) = some (r1, r2) := by rw [if_pos rfl] at H; exact H
     clear H
     have H := H1
     clear H1
     replace H := Option.bind_eq_some_iff.mp H
     obtain ⟨t122, A100, H⟩ := H
     replace H : (if t122 = true then (if a2 = 1 then ((value_digits.f a0_0 a0_1 10).bind fun t123 => (some (t123, 0))) else (if a2 = 2 then ((value_digits.f a0_0 a0_1 16).bind fun t124 => (if 2 + t124.size ≤ 9223372036854775807 then (some ((⟨#[48, 120]⟩ : ByteArray) ++ t124, 0)) else (none))) else (if a2 = 3 then ((value_digits.f a0_0 a0_1 2).bind fun t125 => (if 2 + t125.size ≤ 9223372036854775807 then (some ((⟨#[48, 98]⟩ : ByteArray) ++ t125, 0)) else (none))) else ((value_Bytes.f kj3 a0_0 a0_1 a1).bind fun bt126 => (value_Text.l0 kj3 a2 bt126.1 ([] : List ByteArray) (bt126.1.size : Int) 0))))) else (some ((⟨#[]⟩ : ByteArray), 11))) = some (r1, r2) := H
     have A10 := Aside0.mk A100
     clear A100
     by_cases c11 : t122 = true
     ·
      subst c11
      have H1 : (if a2 = 1 then ((value_digits.f a0_0 a0_1 10).bind fun t123 => (some (t123, 0))) else (if a2 = 2 then ((value_digits.f a0_0 a0_1 16).bind fun t124 => (if 2 + t124.size ≤ 9223372036854775807 then (some ((⟨#[48, 120]⟩ : ByteArray) ++ t124, 0)) else (none))) else (if a2 = 3 then ((value_digits.f a0_0 a0_1 2).bind fun t125 => (if 2 + t125.size ≤ 9223372036854775807 then (some ((⟨#[48, 98]⟩ : ByteArray) ++ t125, 0)) else (none))) else ((value_Bytes.f kj3 a0_0 a0_1 a1).bind fun bt126 => (value_Text.l0 kj3 a2 bt126.1 ([] : List ByteArray) (bt126.1.size : Int) 0))))) = some (r1, r2) := by rw [if_pos rfl] at H; exact H
      clear H
      have H := H1
      clear H1
      by_cases c12 : a2 = 1
      ·
       rw [if_pos c12] at H
       have c12b0 : (a2 == 1) = true := beq_iff_eq.mpr c12
       have c12b1 : (a2 != 1) = false := bne_eq_false_iff_eq.mpr c12
       clear c12
       replace H := Option.bind_eq_some_iff.mp H
       obtain ⟨t123, A130, H⟩ := H
       replace H : (some (t123, 0)) = some (r1, r2) := H
       have A13 := Aside0.mk A130
       clear A130
       simp only [Option.some.injEq, Prod.mk.injEq] at H
       obtain ⟨rfl, rfl⟩ := H
       go_wp2_with (first | ((with_reducible refine gate_callee (f := 39) rfl ?_); refine goesL_ (some 22) rfl rfl Tryd.func39 (by kernel_rfl) rfl #[.int .i64 a1, .int .i64 a2] rfl (by (try simp only [List.map_toArray, List.map_cons, List.map_nil]); first | done | rfl | (simp only [List.length_drop, List.length_take]; rfl)) ?_; (with_reducible refine (value_has.calls a1 a2 true _ A8.out).mono ?_); rintro e w' ⟨rfl, ⟨nd, rfl⟩⟩; refine ⟨_, rfl, ?_⟩; have hcz14_0 : wc.cell? ⟨gb120, 0, none⟩ = some (.int .u64 a0_0) := (blk_cell BK120.out 0).trans rfl; have hcz14_1 : wc.cell? ⟨gb120, 1, none⟩ = some (.int .u64 a0_1) := (blk_cell BK120.out 1).trans rfl; have hfz14_0 := blk_frozen BK120.out 0; have hfz14_1 := blk_frozen BK120.out 1) | ((with_reducible refine gate_callee (f := 19) rfl ?_); refine goesL_ (some 27) rfl rfl Tryd.func19 (by kernel_rfl) rfl #[.agg #[.int .u64 a0_0, .int .u64 a0_1], .int .i64 a1] rfl (by (try simp only [List.map_toArray, List.map_cons, List.map_nil]); first | done | rfl | (simp only [List.length_drop, List.length_take]; rfl)) ?_; (with_reducible refine (value_Fits.calls a0_0 a0_1 a1 true _ A10.out).mono ?_); rintro e w15 ⟨rfl, hb⟩; refine ⟨_, rfl, ?_⟩; have n0_ := Aside0.mk (blk_below (g := gb120) (o := .cells #[.int .u64 a0_0, .int .u64 a0_1] 24 (0, 0)) (by (with_reducible repeat (first | refine blk_drewN ?_ _ | refine blk_drew ?_ | refine blk_alloc ?_ _)); exact BK120.out) hb); have n1_ := Aside0.mk (below_step (by repeat (first | (with_reducible first | exact HB.out | apply below_alloc | apply pw_below_drewN | apply below_drew1 | refine below_set ?_ GE120.out) | exact HB.out)) hb); clear BK120; clear HB; have BK120 := n0_; have HB := n1_; clear n0_ n1_; (try clear hb); (try clear hb2); (try clear hk); (try clear hi); have hcz16_0 : w15.cell? ⟨gb120, 0, none⟩ = some (.int .u64 a0_0) := (blk_cell BK120.out 0).trans rfl; have hcz16_1 : w15.cell? ⟨gb120, 1, none⟩ = some (.int .u64 a0_1) := (blk_cell BK120.out 1).trans rfl; have hfz16_0 := blk_frozen BK120.out 0; have hfz16_1 := blk_frozen BK120.out 1) | ((with_reducible refine gate_callee (f := 40) rfl ?_); refine goesL_ (some 33) rfl rfl Tryd.func40 (by kernel_rfl) rfl #[.agg #[.int .u64 a0_0, .int .u64 a0_1], .int .u64 10] rfl (by (try simp only [List.map_toArray, List.map_cons, List.map_nil]); first | done | rfl | (simp only [List.length_drop, List.length_take]; rfl)) ?_; (with_reducible refine (value_digits.calls a0_0 a0_1 10 t123 _ ?side1 A13.out).mono ?_); (case side1 => exact GlobalsAt.below HG.out (by repeat (first | (with_reducible first | exact HB.out | apply below_alloc | apply pw_below_drewN | apply below_drew1 | refine below_set ?_ GE120.out) | exact HB.out))); rintro e w17 ⟨rfl, hb⟩; refine ⟨_, rfl, ?_⟩; have n0_ := Aside0.mk (blk_below (g := gb120) (o := .cells #[.int .u64 a0_0, .int .u64 a0_1] 24 (0, 0)) (by (with_reducible repeat (first | refine blk_drewN ?_ _ | refine blk_drew ?_ | refine blk_alloc ?_ _)); exact BK120.out) hb); have n1_ := Aside0.mk (below_step (by repeat (first | (with_reducible first | exact HB.out | apply below_alloc | apply pw_below_drewN | apply below_drew1 | refine below_set ?_ GE120.out) | exact HB.out)) hb); clear BK120; clear HB; have BK120 := n0_; have HB := n1_; clear n0_ n1_; (try clear hb); (try clear hb2); (try clear hk); (try clear hi)))
       go_ret2
       exact ⟨by first | rfl | (simp [errW_none, errW_some] <;> rfl) | (simp [*, errW_none, errW_some] <;> rfl), by repeat (first | (with_reducible first | exact HB.out | apply below_alloc | apply pw_below_drewN | apply below_drew1 | refine below_set ?_ GE120.out) | exact HB.out)⟩
      ·
       rw [if_neg c12] at H
       have c12b0 : (a2 == 1) = false := beq_eq_false_iff_ne.mpr c12
       have c12b1 : (a2 != 1) = true := bne_iff_ne.mpr c12
       by_cases c18 : a2 = 2
       ·
        rw [if_pos c18] at H
        have c18b0 : (a2 == 2) = true := beq_iff_eq.mpr c18
        have c18b1 : (a2 != 2) = false := bne_eq_false_iff_eq.mpr c18
        clear c18
        replace H := Option.bind_eq_some_iff.mp H
        obtain ⟨t124, A190, H⟩ := H
        replace H : (if 2 + t124.size ≤ 9223372036854775807 then (some ((⟨#[48, 120]⟩ : ByteArray) ++ t124, 0)) else (none)) = some (r1, r2) := H
        have A19 := Aside0.mk A190
        clear A190
        by_cases c20 : 2 + t124.size ≤ 9223372036854775807
        ·
         rw [if_pos c20] at H
         have c20b0 := eq_true c20
         have c20b1 : decide (2 + t124.size ≤ 9223372036854775807) = true := decide_eq_true c20
         try have c20b2 : (9223372036854775807 < 2 + t124.size) = False := eq_false (Nat.not_lt.2 c20)
         simp only [Option.some.injEq, Prod.mk.injEq] at H
         obtain ⟨rfl, rfl⟩ := H
         go_wp2_with (first | ((with_reducible refine gate_callee (f := 39) rfl ?_); refine goesL_ (some 22) rfl rfl Tryd.func39 (by kernel_rfl) rfl #[.int .i64 a1, .int .i64 a2] rfl (by (try simp only [List.map_toArray, List.map_cons, List.map_nil]); first | done | rfl | (simp only [List.length_drop, List.length_take]; rfl)) ?_; (with_reducible refine (value_has.calls a1 a2 true _ A8.out).mono ?_); rintro e w' ⟨rfl, ⟨nd, rfl⟩⟩; refine ⟨_, rfl, ?_⟩; have hcz21_0 : wc.cell? ⟨gb120, 0, none⟩ = some (.int .u64 a0_0) := (blk_cell BK120.out 0).trans rfl; have hcz21_1 : wc.cell? ⟨gb120, 1, none⟩ = some (.int .u64 a0_1) := (blk_cell BK120.out 1).trans rfl; have hfz21_0 := blk_frozen BK120.out 0; have hfz21_1 := blk_frozen BK120.out 1) | ((with_reducible refine gate_callee (f := 19) rfl ?_); refine goesL_ (some 27) rfl rfl Tryd.func19 (by kernel_rfl) rfl #[.agg #[.int .u64 a0_0, .int .u64 a0_1], .int .i64 a1] rfl (by (try simp only [List.map_toArray, List.map_cons, List.map_nil]); first | done | rfl | (simp only [List.length_drop, List.length_take]; rfl)) ?_; (with_reducible refine (value_Fits.calls a0_0 a0_1 a1 true _ A10.out).mono ?_); rintro e w22 ⟨rfl, hb⟩; refine ⟨_, rfl, ?_⟩; have n0_ := Aside0.mk (blk_below (g := gb120) (o := .cells #[.int .u64 a0_0, .int .u64 a0_1] 24 (0, 0)) (by (with_reducible repeat (first | refine blk_drewN ?_ _ | refine blk_drew ?_ | refine blk_alloc ?_ _)); exact BK120.out) hb); have n1_ := Aside0.mk (below_step (by repeat (first | (with_reducible first | exact HB.out | apply below_alloc | apply pw_below_drewN | apply below_drew1 | refine below_set ?_ GE120.out) | exact HB.out)) hb); clear BK120; clear HB; have BK120 := n0_; have HB := n1_; clear n0_ n1_; (try clear hb); (try clear hb2); (try clear hk); (try clear hi); have hcz23_0 : w22.cell? ⟨gb120, 0, none⟩ = some (.int .u64 a0_0) := (blk_cell BK120.out 0).trans rfl; have hcz23_1 : w22.cell? ⟨gb120, 1, none⟩ = some (.int .u64 a0_1) := (blk_cell BK120.out 1).trans rfl; have hfz23_0 := blk_frozen BK120.out 0; have hfz23_1 := blk_frozen BK120.out 1) | ((with_reducible refine gate_callee (f := 40) rfl ?_); refine goesL_ (some 37) rfl rfl Tryd.func40 (by kernel_rfl) rfl #[.agg #[.int .u64 a0_0, .int .u64 a0_1], .int .u64 16] rfl (by (try simp only [List.map_toArray, List.map_cons, List.map_nil]); first | done | rfl | (simp only [List.length_drop, List.length_take]; rfl)) ?_; (with_reducible refine (value_digits.calls a0_0 a0_1 16 t124 _ ?side1 A19.out).mono ?_); (case side1 => exact GlobalsAt.below HG.out (by repeat (first | (with_reducible first | exact HB.out | apply below_alloc | apply pw_below_drewN | apply below_drew1 | refine below_set ?_ GE120.out) | exact HB.out))); rintro e w24 ⟨rfl, hb⟩; refine ⟨_, rfl, ?_⟩; have n0_ := Aside0.mk (blk_below (g := gb120) (o := .cells #[.int .u64 a0_0, .int .u64 a0_1] 24 (0, 0)) (by (with_reducible repeat (first | refine blk_drewN ?_ _ | refine blk_drew ?_ | refine blk_alloc ?_ _)); exact BK120.out) hb); have n1_ := Aside0.mk (below_step (by repeat (first | (with_reducible first | exact HB.out | apply below_alloc | apply pw_below_drewN | apply below_drew1 | refine below_set ?_ GE120.out) | exact HB.out)) hb); clear BK120; clear HB; have BK120 := n0_; have HB := n1_; clear n0_ n1_; (try clear hb); (try clear hb2); (try clear hk); (try clear hi)))
         go_ret2
         exact ⟨by first | rfl | (simp [errW_none, errW_some] <;> rfl) | (simp [*, errW_none, errW_some] <;> rfl), by repeat (first | (with_reducible first | exact HB.out | apply below_alloc | apply pw_below_drewN | apply below_drew1 | refine below_set ?_ GE120.out) | exact HB.out)⟩
        ·
         rw [if_neg c20] at H
         exact absurd H (by simp)
       ·
        rw [if_neg c18] at H
        have c18b0 : (a2 == 2) = false := beq_eq_false_iff_ne.mpr c18
        have c18b1 : (a2 != 2) = true := bne_iff_ne.mpr c18
        by_cases c25 : a2 = 3
        ·
         rw [if_pos c25] at H
         have c25b0 : (a2 == 3) = true := beq_iff_eq.mpr c25
         have c25b1 : (a2 != 3) = false := bne_eq_false_iff_eq.mpr c25
         clear c25
         replace H := Option.bind_eq_some_iff.mp H
         obtain ⟨t125, A260, H⟩ := H
         replace H : (if 2 + t125.size ≤ 9223372036854775807 then (some ((⟨#[48, 98]⟩ : ByteArray) ++ t125, 0)) else (none)) = some (r1, r2) := H
         have A26 := Aside0.mk A260
         clear A260
         by_cases c27 : 2 + t125.size ≤ 9223372036854775807
         ·
          rw [if_pos c27] at H
          have c27b0 := eq_true c27
          have c27b1 : decide (2 + t125.size ≤ 9223372036854775807) = true := decide_eq_true c27
          try have c27b2 : (9223372036854775807 < 2 + t125.size) = False := eq_false (Nat.not_lt.2 c27)
          simp only [Option.some.injEq, Prod.mk.injEq] at H
          obtain ⟨rfl, rfl⟩ := H
          go_wp2_with (first | ((with_reducible refine gate_callee (f := 39) rfl ?_); refine goesL_ (some 22) rfl rfl Tryd.func39 (by kernel_rfl) rfl #[.int .i64 a1, .int .i64 a2] rfl (by (try simp only [List.map_toArray, List.map_cons, List.map_nil]); first | done | rfl | (simp only [List.length_drop, List.length_take]; rfl)) ?_; (with_reducible refine (value_has.calls a1 a2 true _ A8.out).mono ?_); rintro e w' ⟨rfl, ⟨nd, rfl⟩⟩; refine ⟨_, rfl, ?_⟩; have hcz28_0 : wc.cell? ⟨gb120, 0, none⟩ = some (.int .u64 a0_0) := (blk_cell BK120.out 0).trans rfl; have hcz28_1 : wc.cell? ⟨gb120, 1, none⟩ = some (.int .u64 a0_1) := (blk_cell BK120.out 1).trans rfl; have hfz28_0 := blk_frozen BK120.out 0; have hfz28_1 := blk_frozen BK120.out 1) | ((with_reducible refine gate_callee (f := 19) rfl ?_); refine goesL_ (some 27) rfl rfl Tryd.func19 (by kernel_rfl) rfl #[.agg #[.int .u64 a0_0, .int .u64 a0_1], .int .i64 a1] rfl (by (try simp only [List.map_toArray, List.map_cons, List.map_nil]); first | done | rfl | (simp only [List.length_drop, List.length_take]; rfl)) ?_; (with_reducible refine (value_Fits.calls a0_0 a0_1 a1 true _ A10.out).mono ?_); rintro e w29 ⟨rfl, hb⟩; refine ⟨_, rfl, ?_⟩; have n0_ := Aside0.mk (blk_below (g := gb120) (o := .cells #[.int .u64 a0_0, .int .u64 a0_1] 24 (0, 0)) (by (with_reducible repeat (first | refine blk_drewN ?_ _ | refine blk_drew ?_ | refine blk_alloc ?_ _)); exact BK120.out) hb); have n1_ := Aside0.mk (below_step (by repeat (first | (with_reducible first | exact HB.out | apply below_alloc | apply pw_below_drewN | apply below_drew1 | refine below_set ?_ GE120.out) | exact HB.out)) hb); clear BK120; clear HB; have BK120 := n0_; have HB := n1_; clear n0_ n1_; (try clear hb); (try clear hb2); (try clear hk); (try clear hi); have hcz30_0 : w29.cell? ⟨gb120, 0, none⟩ = some (.int .u64 a0_0) := (blk_cell BK120.out 0).trans rfl; have hcz30_1 : w29.cell? ⟨gb120, 1, none⟩ = some (.int .u64 a0_1) := (blk_cell BK120.out 1).trans rfl; have hfz30_0 := blk_frozen BK120.out 0; have hfz30_1 := blk_frozen BK120.out 1) | ((with_reducible refine gate_callee (f := 40) rfl ?_); refine goesL_ (some 42) rfl rfl Tryd.func40 (by kernel_rfl) rfl #[.agg #[.int .u64 a0_0, .int .u64 a0_1], .int .u64 2] rfl (by (try simp only [List.map_toArray, List.map_cons, List.map_nil]); first | done | rfl | (simp only [List.length_drop, List.length_take]; rfl)) ?_; (with_reducible refine (value_digits.calls a0_0 a0_1 2 t125 _ ?side1 A26.out).mono ?_); (case side1 => exact GlobalsAt.below HG.out (by repeat (first | (with_reducible first | exact HB.out | apply below_alloc | apply pw_below_drewN | apply below_drew1 | refine below_set ?_ GE120.out) | exact HB.out))); rintro e w31 ⟨rfl, hb⟩; refine ⟨_, rfl, ?_⟩; have n0_ := Aside0.mk (blk_below (g := gb120) (o := .cells #[.int .u64 a0_0, .int .u64 a0_1] 24 (0, 0)) (by (with_reducible repeat (first | refine blk_drewN ?_ _ | refine blk_drew ?_ | refine blk_alloc ?_ _)); exact BK120.out) hb); have n1_ := Aside0.mk (below_step (by repeat (first | (with_reducible first | exact HB.out | apply below_alloc | apply pw_below_drewN | apply below_drew1 | refine below_set ?_ GE120.out) | exact HB.out)) hb); clear BK120; clear HB; have BK120 := n0_; have HB := n1_; clear n0_ n1_; (try clear hb); (try clear hb2); (try clear hk); (try clear hi)))
          go_ret2
          exact ⟨by first | rfl | (simp [errW_none, errW_some] <;> rfl) | (simp [*, errW_none, errW_some] <;> rfl), by repeat (first | (with_reducible first | exact HB.out | apply below_alloc | apply pw_below_drewN | apply below_drew1 | refine below_set ?_ GE120.out) | exact HB.out)⟩
         ·
          rw [if_neg c27] at H
          exact absurd H (by simp)
        ·
         rw [if_neg c25] at H
         have c25b0 : (a2 == 3) = false := beq_eq_false_iff_ne.mpr c25
         have c25b1 : (a2 != 3) = true := bne_iff_ne.mpr c25
         replace H := Option.bind_eq_some_iff.mp H
         obtain ⟨⟨t126, t127⟩, A320, H⟩ := H
         replace H : (value_Text.l0 kj3 a2 t126 ([] : List ByteArray) (t126.size : Int) 0) = some (r1, r2) := H
         have A32 := Aside0.mk A320
         clear A320
         have H' := Aside0.mk H
         clear H
         go_wp2_with (first | ((with_reducible refine gate_callee (f := 39) rfl ?_); refine goesL_ (some 22) rfl rfl Tryd.func39 (by kernel_rfl) rfl #[.int .i64 a1, .int .i64 a2] rfl (by (try simp only [List.map_toArray, List.map_cons, List.map_nil]); first | done | rfl | (simp only [List.length_drop, List.length_take]; rfl)) ?_; (with_reducible refine (value_has.calls a1 a2 true _ A8.out).mono ?_); rintro e w' ⟨rfl, ⟨nd, rfl⟩⟩; refine ⟨_, rfl, ?_⟩; have hcz33_0 : wc.cell? ⟨gb120, 0, none⟩ = some (.int .u64 a0_0) := (blk_cell BK120.out 0).trans rfl; have hcz33_1 : wc.cell? ⟨gb120, 1, none⟩ = some (.int .u64 a0_1) := (blk_cell BK120.out 1).trans rfl; have hfz33_0 := blk_frozen BK120.out 0; have hfz33_1 := blk_frozen BK120.out 1) | ((with_reducible refine gate_callee (f := 19) rfl ?_); refine goesL_ (some 27) rfl rfl Tryd.func19 (by kernel_rfl) rfl #[.agg #[.int .u64 a0_0, .int .u64 a0_1], .int .i64 a1] rfl (by (try simp only [List.map_toArray, List.map_cons, List.map_nil]); first | done | rfl | (simp only [List.length_drop, List.length_take]; rfl)) ?_; (with_reducible refine (value_Fits.calls a0_0 a0_1 a1 true _ A10.out).mono ?_); rintro e w34 ⟨rfl, hb⟩; refine ⟨_, rfl, ?_⟩; have n0_ := Aside0.mk (blk_below (g := gb120) (o := .cells #[.int .u64 a0_0, .int .u64 a0_1] 24 (0, 0)) (by (with_reducible repeat (first | refine blk_drewN ?_ _ | refine blk_drew ?_ | refine blk_alloc ?_ _)); exact BK120.out) hb); have n1_ := Aside0.mk (below_step (by repeat (first | (with_reducible first | exact HB.out | apply below_alloc | apply pw_below_drewN | apply below_drew1 | refine below_set ?_ GE120.out) | exact HB.out)) hb); clear BK120; clear HB; have BK120 := n0_; have HB := n1_; clear n0_ n1_; (try clear hb); (try clear hb2); (try clear hk); (try clear hi); have hcz35_0 : w34.cell? ⟨gb120, 0, none⟩ = some (.int .u64 a0_0) := (blk_cell BK120.out 0).trans rfl; have hcz35_1 : w34.cell? ⟨gb120, 1, none⟩ = some (.int .u64 a0_1) := (blk_cell BK120.out 1).trans rfl; have hfz35_0 := blk_frozen BK120.out 0; have hfz35_1 := blk_frozen BK120.out 1) | ((with_reducible refine gate_callee (f := 14) rfl ?_); refine goesL_ (some 47) rfl rfl Tryd.func14 (by kernel_rfl) rfl #[.agg #[.int .u64 a0_0, .int .u64 a0_1], .int .i64 a1] rfl (by (try simp only [List.map_toArray, List.map_cons, List.map_nil]); first | done | rfl | (simp only [List.length_drop, List.length_take]; rfl)) ?_; (with_reducible refine (value_Bytes.calls kj3 a0_0 a0_1 a1 t126 t127 _ A32.out).mono ?_); rintro e w36 ⟨rfl, hb⟩; refine ⟨_, rfl, ?_⟩; have n0_ := Aside0.mk (blk_below (g := gb120) (o := .cells #[.int .u64 a0_0, .int .u64 a0_1] 24 (0, 0)) (by (with_reducible repeat (first | refine blk_drewN ?_ _ | refine blk_drew ?_ | refine blk_alloc ?_ _)); exact BK120.out) hb); have n1_ := Aside0.mk (below_step (by repeat (first | (with_reducible first | exact HB.out | apply below_alloc | apply pw_below_drewN | apply below_drew1 | refine below_set ?_ GE120.out) | exact HB.out)) hb); clear BK120; clear HB; have BK120 := n0_; have HB := n1_; clear n0_ n1_; (try clear hb); (try clear hb2); (try clear hk); (try clear hi)))
         go_loopg [10, 52] kj3 (fun kq v10 v52 w' => ∃ (x10_2 : List ByteArray) (x52_2 : Int), v52 = .int .i64 x52_2 ∧ Aside0 (value_Text.l0 kq a2 t126 x10_2 (t126.size : Int) x52_2 = some (r1, r2)) ∧ Aside0 (kq ≤ kj3) ∧ Aside0 (Kd.R Kd.string 9 w' w.heap.size (fun _ => True) v10 x10_2) ∧ Aside0 (w'.heap[gb120]? = some (.cells #[.int .u64 a0_0, .int .u64 a0_1] 24 (0, 0))) ∧ Aside0 (Below w.heap.size w w'))
         case atStart => exact ⟨(([] : List ByteArray)), (0), (by first | rfl | (simp; done) | (simp [*]; done)), H', ⟨Nat.le_refl _⟩, ⟨by first | exact Kd.R_nil _ _ _ _ _ | exact Kd.N_nil _ _ _ _ _ | exact Kd.V_nil _ _ _ _ _ | exact Kd.Q_nil _ _ _ _ _ | exact Kd.S_nil _ _ _ _ _⟩, ⟨by (with_reducible repeat (first | refine blk_drewN ?_ _ | refine blk_drew ?_ | refine blk_alloc ?_ _)); exact BK120.out⟩, ⟨by repeat (first | (with_reducible first | exact HB.out | apply below_alloc | apply pw_below_drewN | apply below_drew1 | refine below_set ?_ GE120.out) | exact HB.out)⟩⟩
         case round =>
          clear H'
          try clear c1
          try clear c2
          try clear p2
          try clear c3
          try clear c4
          try clear c6
          try clear c6b0
          try clear c7
          try clear c9
          try clear c11
          try clear c12
          try clear c12b0
          try clear c12b1
          try clear c14
          try clear c18
          try clear c18b0
          try clear c18b1
          try clear c19
          try clear c20
          try clear c20b0
          try clear c20b1
          try clear c20b2
          try clear c25
          try clear c25b0
          try clear c25b1
          try clear c27
          try clear c27b0
          try clear c27b1
          try clear c27b2
          try clear hcz14_0
          try clear hcz14_1
          try clear hcz16_0
          try clear hcz16_1
          try clear hcz21_0
          try clear hcz21_1
          try clear hcz23_0
          try clear hcz23_1
          try clear hcz28_0
          try clear hcz28_1
          try clear hcz30_0
          try clear hcz30_1
          try clear hcz33_0
          try clear hcz33_1
          try clear hcz35_0
          try clear hcz35_1
          try clear hfz14_0
          try clear hfz14_1
          try clear hfz16_0
          try clear hfz16_1
          try clear hfz21_0
          try clear hfz21_1
          try clear hfz23_0
          try clear hfz23_1
          try clear hfz28_0
          try clear hfz28_1
          try clear hfz30_0
          try clear hfz30_1
          try clear hfz33_0
          try clear hfz33_1
          try clear hfz35_0
          try clear hfz35_1
          try clear p2
          obtain ⟨x10_2, x52_2, rfl, HA, HK2, HO_10, BK120, HB⟩ := hrel
          cases gk with
          | zero => exact absurd HA.out (by simp [value_Text.l0])
          | succ k2 =>
           have H := HA.out
           clear HA
           simp only [value_Text.l0] at H
           by_cases c37 : x52_2 < (t126.size : Int)
           ·
            rw [if_pos c37] at H
            have c37b0 : decide (x52_2 < (t126.size : Int)) = true := decide_eq_true c37
            clear c37
            by_cases c38 : a2 = 4
            ·
             rw [if_pos c38] at H
             have c38b0 : (a2 == 4) = true := beq_iff_eq.mpr c38
             have c38b1 : (a2 != 4) = false := bne_eq_false_iff_eq.mpr c38
             clear c38
             by_cases c39 : 0 ≤ x52_2
             ·
              rw [if_pos c39] at H
              have c39b0 : decide (0 ≤ x52_2) = true := decide_eq_true c39
              clear c39
              by_cases c40 : x52_2 < (t126.size : Int)
              ·
               rw [if_pos c40] at H
               have c40b0 : decide (x52_2 < (t126.size : Int)) = true := decide_eq_true c40
               clear c40
               replace H := Option.bind_eq_some_iff.mp H
               obtain ⟨t128, A420, H⟩ := H
               replace H : (if x10_2.length < 8796093022208 then (value_Text.l0 k2 a2 t126 (x10_2 ++ [t128]) (t126.size : Int) (wrap64 (x52_2 + 1))) else (none)) = some (r1, r2) := H
               have A42 := Aside0.mk A420
               clear A420
               by_cases c43 : x10_2.length < 8796093022208
               ·
                rw [if_pos c43] at H
                have LMc43 := Aside0.mk c43
                clear c43
                obtain ⟨y129, hy129⟩ : ∃ y_ : List ByteArray, y_ = (x10_2 ++ [t128]) := ⟨_, rfl⟩
                replace H : (value_Text.l0 k2 a2 t126 y129 (t126.size : Int) (wrap64 (x52_2 + 1))) = some (r1, r2) := by first | (rw [hy129]; with_reducible exact H) | (have H2_ := (Option.bind_some _ _).symm.trans H; rw [hy129]; with_reducible exact H2_) | (have H2_ := (Option.bind_some _ _).symm.trans H; with_reducible exact H2_) | with_reducible exact H | (rw [hy129]; exact H) | exact H
                have Ny129 := Aside0.mk hy129
                clear hy129
                have H' := Aside0.mk H
                clear H
                have p41 : 0 ≤ (x52_2 : Int) := of_decide_eq_true (by first | (with_reducible assumption) | assumption)
                have q41 : x52_2 < (t126.size : Int) := of_decide_eq_true (by first | (with_reducible assumption) | assumption)
                have hx41 := bt_at t126 x52_2
                replace p41 := eq_true p41
                replace q41 := eq_true q41
                go_wp2_with (first | ((with_reducible refine gate_callee (f := 40) rfl ?_); refine goesL_ (some 63) rfl rfl Tryd.func40 (by kernel_rfl) rfl #[.agg #[.int .u64 0, .int .u64 (IntKind.u64.wrap (bt t126 x52_2))], .int .u64 10] rfl (by (try simp only [List.map_toArray, List.map_cons, List.map_nil]); first | done | rfl | (simp only [List.length_drop, List.length_take]; rfl)) ?_; (with_reducible refine (value_digits.calls 0 (IntKind.u64.wrap (bt t126 x52_2)) 10 t128 _ ?side1 A42.out).mono ?_); (case side1 => exact GlobalsAt.below HG.out (by repeat (first | (with_reducible first | exact HB.out | apply below_alloc | apply pw_below_drewN | apply below_drew1 | refine below_set ?_ GE120.out) | exact HB.out))); rintro e w44 ⟨rfl, hb⟩; refine ⟨_, rfl, ?_⟩; have n0_ := Aside0.mk (Kd.R_below (by (with_reducible repeat (first | apply Kd.R_alloc | apply Kd.R_drewN | apply Kd.R_drew)); exact HO_10.out) hb); have n1_ := Aside0.mk (blk_below (g := gb120) (o := .cells #[.int .u64 a0_0, .int .u64 a0_1] 24 (0, 0)) (by (with_reducible repeat (first | refine blk_drewN ?_ _ | refine blk_drew ?_ | refine blk_alloc ?_ _)); exact BK120.out) hb); have n2_ := Aside0.mk (below_step (by repeat (first | (with_reducible first | exact HB.out | apply below_alloc | apply pw_below_drewN | apply below_drew1 | refine below_set ?_ GE120.out) | exact HB.out)) hb); clear HO_10; clear BK120; clear HB; have HO_10 := n0_; have BK120 := n1_; have HB := n2_; clear n0_ n1_ n2_; (try clear hb); (try clear hb2); (try clear hk); (try clear hi)) | ((with_reducible refine gate_builtin (b := .append) (xs := #[.tmp 57, .tmp 64]) rfl ?_); at_builtin; refine Kd.R_append Kd.string (w0 := w) w.heap.size rfl (.tmp 57) (.tmp 64) 47 9 (.string ⟨#[]⟩) 16 rfl Tryd.underlying47 info9 rfl (by decide) (by omega) u10 x10_2 t128 [.string t128] (fun _ => True) (fun _ => False) rfl rfl ?aP (fun _ hk => hk.elim) ?aF ?aO ?aB ?aS ?aL ?_; (case aP => exact rfl); (case aB => exact (by repeat (first | (with_reducible first | exact HB.out | apply below_alloc | apply pw_below_drewN | apply below_drew1 | refine below_set ?_ GE120.out) | exact HB.out))); (case aF => exact (fun _ _ => trivial)); (case aO => exact (by (with_reducible repeat (first | apply Kd.R_alloc | apply Kd.R_drewN | apply Kd.R_drew)); exact HO_10.out)); (case aS => exact (below_size (by repeat (first | (with_reducible first | exact HB.out | apply below_alloc | apply pw_below_drewN | apply below_drew1 | refine below_set ?_ GE120.out) | exact HB.out)))); (case aL => have := LMc43.out; omega); intro v130 w45 ho hb hg hat; rw [← Ny129.out] at ho; have n0_ := Aside0.mk (blk_grown (g := gb120) (o := .cells #[.int .u64 a0_0, .int .u64 a0_1] 24 (0, 0)) (by (with_reducible repeat (first | refine blk_drewN ?_ _ | refine blk_drew ?_ | refine blk_alloc ?_ _)); exact BK120.out) hg (Kd.R_ne HO_10.out BK120.out (by decide))); have n1_ := Aside0.mk (hb); have n2_ := Aside0.mk (ho); clear BK120; clear HB; clear HO_10; have BK120 := n0_; have HB := n1_; have HO131 := n2_; clear n0_ n1_ n2_; clear ho hb hg hat))
                go_roundg k2
                case measure => have := HJ3.out; have := HK2.out; omega
                case rel => exact ⟨(y129), (wrap64 (x52_2 + 1)), (by first | rfl | (simp; done) | (simp [*]; done)), H', ⟨by have := HJ3.out; have := HK2.out; omega⟩, ⟨by (with_reducible repeat (first | apply Kd.R_alloc | apply Kd.R_drewN | apply Kd.R_drew)); exact HO131.out⟩, ⟨by (with_reducible repeat (first | refine blk_drewN ?_ _ | refine blk_drew ?_ | refine blk_alloc ?_ _)); exact BK120.out⟩, ⟨by repeat (first | (with_reducible first | exact HB.out | apply below_alloc | apply pw_below_drewN | apply below_drew1 | refine below_set ?_ GE120.out) | exact HB.out)⟩⟩
               ·
                rw [if_neg c43] at H
                exact absurd H (by simp)
              ·
               rw [if_neg c40] at H
               exact absurd H (by simp)
             ·
              rw [if_neg c39] at H
              exact absurd H (by simp)
            ·
             rw [if_neg c38] at H
             have c38b0 : (a2 == 4) = false := beq_eq_false_iff_ne.mpr c38
             have c38b1 : (a2 != 4) = true := bne_iff_ne.mpr c38
             by_cases c46 : 0 ≤ x52_2
             ·
              rw [if_pos c46] at H
              have c46b0 : decide (0 ≤ x52_2) = true := decide_eq_true c46
              clear c46
              by_cases c47 : x52_2 < (t126.size : Int)
              ·
               rw [if_pos c47] at H
               have c47b0 : decide (x52_2 < (t126.size : Int)) = true := decide_eq_true c47
               clear c47
               by_cases c43 : x10_2.length < 8796093022208
               ·
                rw [if_pos c43] at H
                have LMc43 := Aside0.mk c43
                clear c43
                obtain ⟨y129, hy129⟩ : ∃ y_ : List ByteArray, y_ = (x10_2 ++ [hexB (bt t126 x52_2)]) := ⟨_, rfl⟩
                replace H : (value_Text.l0 k2 a2 t126 y129 (t126.size : Int) (wrap64 (x52_2 + 1))) = some (r1, r2) := by rw [hy129]; exact H
                have Ny129 := Aside0.mk hy129
                clear hy129
                have H' := Aside0.mk H
                clear H
                have p41 : 0 ≤ (x52_2 : Int) := of_decide_eq_true (by first | (with_reducible assumption) | assumption)
                have q41 : x52_2 < (t126.size : Int) := of_decide_eq_true (by first | (with_reducible assumption) | assumption)
                have hx41 := bt_at t126 x52_2
                replace p41 := eq_true p41
                replace q41 := eq_true q41
                have hbr := bt_range t126 x52_2
                generalize bt t126 x52_2 = b at *
                obtain ⟨n, rfl⟩ : ∃ n : Nat, b = n := ⟨b.toNat, by omega⟩
                have hsz0 := World.block_lt_of_cell? _ _ ((HG.out.below HB.out) 0 (by decide))
                have cg1 := (HG.out.below HB.out) (n / 16) (by omega)
                have cg2 := (HG.out.below HB.out) (n % 16) (by omega)
                simp only [signsG] at cg1 cg2 hsz0
                have hb1 : signsL.getD (n / 16) 0 = signI (n / 16) := rfl
                have hb2 : signsL.getD (n % 16) 0 = signI (n % 16) := rfl
                rw [hb1] at cg1
                rw [hb2] at cg2
                clear hb1 hb2
                have en1 : ((n : Int) / 16).toNat = n / 16 := by omega
                rw [← en1] at cg1
                have EN1 := Aside0.mk en1
                clear en1
                have hn8 : n < 256 := by omega
                have en2 : (Go.bits .and .u8 (n : Int) 15).toNat = n % 16 := by rw [and15 n hn8]; omega
                rw [← en2] at cg2
                have EN2 := Aside0.mk en2
                have pp2 : (0 : Int) ≤ Go.bits .and .u8 (n : Int) 15 := by rw [and15 n hn8]; omega
                have pq2 : Go.bits .and .u8 (n : Int) 15 < 16 := by rw [and15 n hn8]; omega
                have HN8 := Aside0.mk hn8
                clear en2 hn8
                have hcv2 := conv2
                have pp1 : (0 : Int) ≤ (n : Int) / 16 := by omega
                have pq1 : (n : Int) / 16 < 16 := by omega
                go_wp2_with fail
                refine start_ (n := 18) (S := fun w' => w'.cell? ⟨0, ((n : Int) / 16).toNat, none⟩ = some (.int .u8 (signI ((n : Int) / 16).toNat)) ∧ w'.cell? ⟨0, (Go.bits .and .u8 (n : Int) 15).toNat, none⟩ = some (.int .u8 (signI (Go.bits .and .u8 (n : Int) 15).toNat))) (ds := []) #[false, false, false, false, false, false, false, false, false, false, false, false, false, false, false, false, false, false] (by kernel_rfl) rfl rfl ⟨cg1, cg2⟩ (fun hHeld => ?_)
                refine pure_ (i := 0) (N := some 66) (v := ?_) (a' := ?_) #[true, false, false, false, false, false, false, false, false, false, false, false, false, false, false, false, false, false] rfl rfl (by kernel_rfl) (fun _ _ _ h => h) (Or.inl ⟨by rfl, ?_⟩) ?_ ?_
                rotate_left
                ·
                 intro w'
                 go_simp
                 with_reducible rfl
                rotate_left
                ·
                 simp only [Act.put, List.setIfInBounds_toArray, List.set_cons_zero, List.set_cons_succ, i64_w, i32_w]
                 rfl
                refine pure_ (i := 1) (N := some 67) (v := ?_) (a' := ?_) #[true, true, false, false, false, false, false, false, false, false, false, false, false, false, false, false, false, false] rfl rfl (by kernel_rfl) (fun _ _ _ h => h) (Or.inl ⟨by rfl, ?_⟩) ?_ ?_
                rotate_left
                ·
                 intro w'
                 go_simp
                 with_reducible rfl
                rotate_left
                ·
                 simp only [Act.put, List.setIfInBounds_toArray, List.set_cons_zero, List.set_cons_succ, i64_w, i32_w]
                 rfl
                refine pure_ (i := 2) (N := some 68) (v := ?_) (a' := ?_) #[true, true, true, false, false, false, false, false, false, false, false, false, false, false, false, false, false, false] rfl rfl (by kernel_rfl) (fun _ _ _ h => h) (Or.inl ⟨by rfl, ?_⟩) ?_ ?_
                rotate_left
                ·
                 intro w'
                 go_simp
                 with_reducible rfl
                rotate_left
                ·
                 simp only [Act.put, List.setIfInBounds_toArray, List.set_cons_zero, List.set_cons_succ, i64_w, i32_w]
                 rfl
                refine pure_ (i := 7) (N := some 73) (v := ?_) (a' := ?_) #[true, true, true, false, false, false, false, true, false, false, false, false, false, false, false, false, false, false] rfl rfl (by kernel_rfl) (fun _ _ _ h => h) (Or.inl ⟨by rfl, ?_⟩) ?_ ?_
                rotate_left
                ·
                 intro w'
                 go_simp
                 with_reducible rfl
                rotate_left
                ·
                 simp only [Act.put, List.setIfInBounds_toArray, List.set_cons_zero, List.set_cons_succ, i64_w, i32_w]
                 rfl
                refine pure_ (i := 8) (N := some 74) (v := ?_) (a' := ?_) #[true, true, true, false, false, false, false, true, true, false, false, false, false, false, false, false, false, false] rfl rfl (by kernel_rfl) (fun _ _ _ h => h) (Or.inl ⟨by rfl, ?_⟩) ?_ ?_
                rotate_left
                ·
                 intro w'
                 go_simp
                 with_reducible rfl
                rotate_left
                ·
                 simp only [Act.put, List.setIfInBounds_toArray, List.set_cons_zero, List.set_cons_succ, i64_w, i32_w]
                 rfl
                refine take_ (i := 3) (N := some 69) (v := ?_) (a' := ?_) #[true, true, true, true, false, false, false, true, true, false, false, false, false, false, false, false, false, false] rfl rfl (by kernel_rfl) (fun _ _ _ h => h) (Or.inl ⟨by rfl, ?_⟩) hHeld ?_ ?_
                rotate_left
                ·
                 rintro w' ⟨s0, s1⟩
                 go_simp
                 with_reducible rfl
                rotate_left
                ·
                 simp only [Act.put, List.setIfInBounds_toArray, List.set_cons_zero, List.set_cons_succ, i64_w, i32_w]
                 rfl
                refine pure_ (i := 4) (N := some 70) (v := ?_) (a' := ?_) #[true, true, true, true, true, false, false, true, true, false, false, false, false, false, false, false, false, false] rfl rfl (by kernel_rfl) (fun _ _ _ h => h) (Or.inl ⟨by rfl, ?_⟩) ?_ ?_
                rotate_left
                ·
                 intro w'
                 go_simp
                 with_reducible rfl
                rotate_left
                ·
                 simp only [Act.put, List.setIfInBounds_toArray, List.set_cons_zero, List.set_cons_succ, i64_w, i32_w]
                 rfl
                refine pure_ (i := 5) (N := some 71) (v := ?_) (a' := ?_) #[true, true, true, true, true, true, false, true, true, false, false, false, false, false, false, false, false, false] rfl rfl (by kernel_rfl) (fun _ _ _ h => h) (Or.inl ⟨by rfl, ?_⟩) ?_ ?_
                rotate_left
                ·
                 intro w'
                 go_simp
                 with_reducible rfl
                rotate_left
                ·
                 simp only [Act.put, List.setIfInBounds_toArray, List.set_cons_zero, List.set_cons_succ, i64_w, i32_w]
                 rfl
                refine take_ (i := 6) (N := some 72) (v := ?_) (a' := ?_) #[true, true, true, true, true, true, true, true, true, false, false, false, false, false, false, false, false, false] rfl rfl (by kernel_rfl) (fun _ _ _ h => h) (Or.inl ⟨by rfl, ?_⟩) hHeld ?_ ?_
                rotate_left
                ·
                 rintro w' ⟨s0, s1⟩
                 go_simp
                 with_reducible rfl
                rotate_left
                ·
                 simp only [Act.put, List.setIfInBounds_toArray, List.set_cons_zero, List.set_cons_succ, i64_w, i32_w]
                 rfl
                refine take_ (i := 9) (N := some 75) (v := ?_) (a' := ?_) #[true, true, true, true, true, true, true, true, true, true, false, false, false, false, false, false, false, false] rfl rfl (by kernel_rfl) (fun _ _ _ h => h) (Or.inl ⟨by rfl, ?_⟩) hHeld ?_ ?_
                rotate_left
                ·
                 rintro w' ⟨s0, s1⟩
                 go_simp
                 with_reducible rfl
                rotate_left
                ·
                 simp only [Act.put, List.setIfInBounds_toArray, List.set_cons_zero, List.set_cons_succ, i64_w, i32_w]
                 rfl
                refine pure_ (i := 10) (N := some 76) (v := ?_) (a' := ?_) #[true, true, true, true, true, true, true, true, true, true, true, false, false, false, false, false, false, false] rfl rfl (by kernel_rfl) (fun _ _ _ h => h) (Or.inl ⟨by rfl, ?_⟩) ?_ ?_
                rotate_left
                ·
                 intro w'
                 go_simp
                 with_reducible rfl
                rotate_left
                ·
                 simp only [Act.put, List.setIfInBounds_toArray, List.set_cons_zero, List.set_cons_succ, i64_w, i32_w]
                 rfl
                refine pure_ (i := 11) (N := some 77) (v := ?_) (a' := ?_) #[true, true, true, true, true, true, true, true, true, true, true, true, false, false, false, false, false, false] rfl rfl (by kernel_rfl) (fun _ _ _ h => h) (Or.inl ⟨by rfl, ?_⟩) ?_ ?_
                rotate_left
                ·
                 intro w'
                 go_simp
                 with_reducible rfl
                rotate_left
                ·
                 simp only [Act.put, List.setIfInBounds_toArray, List.set_cons_zero, List.set_cons_succ, i64_w, i32_w]
                 rfl
                refine take_ (i := 12) (N := some 78) (v := ?_) (a' := ?_) #[true, true, true, true, true, true, true, true, true, true, true, true, true, false, false, false, false, false] rfl rfl (by kernel_rfl) (fun _ _ _ h => h) (Or.inl ⟨by rfl, ?_⟩) hHeld ?_ ?_
                rotate_left
                ·
                 rintro w' ⟨s0, s1⟩
                 go_simp
                 with_reducible rfl
                rotate_left
                ·
                 simp only [Act.put, List.setIfInBounds_toArray, List.set_cons_zero, List.set_cons_succ, i64_w, i32_w]
                 rfl
                refine one_ (i := 13) (N := some 79) #[true, true, true, true, true, true, true, true, true, true, true, true, true, true, false, false, false, false] rfl rfl (by kernel_rfl) (by decide) (fun K hK => ?_)
                refine value_ (w1 := ?_) (v := ?_) (by rfl) rfl ?_ ?_
                rotate_left 2
                ·
                 go_simp
                 constructor
                 ·
                  rfl
                 ·
                  rfl
                refine hK.out _ _ ⟨((HG.out.below (below_drew1 (below_alloc HB.out _))) ((n : Int) / 16).toNat (by omega)), ((HG.out.below (below_drew1 (below_alloc HB.out _))) (Go.bits .and .u8 (n : Int) 15).toNat (by omega))⟩ (fun hHeld => ?_)
                clear hK K
                refine norm_ (a' := ?_) ?_ ?_
                rotate_left
                ·
                 show Act.put _ (some 79) _ = _
                 simp only [Act.put, List.setIfInBounds_toArray, List.set_cons_zero, List.set_cons_succ, i64_w, i32_w]
                 rfl
                refine one_ (i := 14) (N := some 80) #[true, true, true, true, true, true, true, true, true, true, true, true, true, true, true, false, false, false] rfl rfl (by kernel_rfl) (by decide) (fun K hK => ?_)
                refine value_ (w1 := ?_) (v := ?_) (by rfl) rfl ?_ ?_
                rotate_left 2
                ·
                 go_simp
                 constructor
                 ·
                  rfl
                 ·
                  rfl
                refine hK.out _ _ ⟨((HG.out.below (below_drew1 (below_alloc HB.out _))) ((n : Int) / 16).toNat (by omega)), ((HG.out.below (below_drew1 (below_alloc HB.out _))) (Go.bits .and .u8 (n : Int) 15).toNat (by omega))⟩ (fun hHeld => ?_)
                clear hK K
                refine norm_ (a' := ?_) ?_ ?_
                rotate_left
                ·
                 show Act.put _ (some 80) _ = _
                 simp only [Act.put, List.setIfInBounds_toArray, List.set_cons_zero, List.set_cons_succ, i64_w, i32_w]
                 rfl
                refine one_ (i := 15) (N := some 81) #[true, true, true, true, true, true, true, true, true, true, true, true, true, true, true, true, false, false] rfl rfl (by kernel_rfl) (by decide) (fun K hK => ?_)
                refine value_ (w1 := ?_) (v := ?_) (by rfl) rfl ?_ ?_
                rotate_left 2
                ·
                 go_simp
                 constructor
                 ·
                  rfl
                 ·
                  rfl
                refine hK.out _ _ ⟨((HG.out.below (below_drew1 (below_alloc (below_alloc HB.out _) _))) ((n : Int) / 16).toNat (by omega)), ((HG.out.below (below_drew1 (below_alloc (below_alloc HB.out _) _))) (Go.bits .and .u8 (n : Int) 15).toNat (by omega))⟩ (fun hHeld => ?_)
                clear hK K
                refine norm_ (a' := ?_) ?_ ?_
                rotate_left
                ·
                 show Act.put _ (some 81) _ = _
                 simp only [Act.put, List.setIfInBounds_toArray, List.set_cons_zero, List.set_cons_succ, i64_w, i32_w]
                 rfl
                refine one_ (i := 16) (N := some 82) #[true, true, true, true, true, true, true, true, true, true, true, true, true, true, true, true, true, false] rfl rfl (by kernel_rfl) (by decide) (fun K hK => ?_)
                refine R_append_stepW Kd.string (w0 := w) (W := ((wr.alloc (.cells #[.int .u8 (signI ((n : Int) / 16).toNat), .int .u8 (signI (Go.bits .and .u8 (n : Int) 15).toNat)] 5)).drew)) w.heap.size (by rfl) (.tmp 66) (.tmp 81) 47 9 (.string ⟨#[]⟩) 16 (by rfl) Tryd.underlying47 info9 rfl (by decide) (by omega) u10 x10_2 (strOfNums [signI ((n : Int) / 16).toNat, signI (Go.bits .and .u8 (n : Int) 15).toNat]) [.string (strOfNums [signI ((n : Int) / 16).toNat, signI (Go.bits .and .u8 (n : Int) 15).toNat])] (fun _ => True) (fun _ => False) (by rfl) (by simp; rfl) (by rfl) (fun _ hk => hk.elim) (fun _ _ => trivial) (Kd.R_drew (Kd.R_alloc HO_10.out _)) (below_drew1 (below_alloc HB.out _)) (below_size (below_drew1 (below_alloc HB.out _))) (by have := LMc43.out; omega) (by rfl) ?_
                intro v130 w45 ho hb hg hat
                rw [hexB_eq n HN8.out, ← Ny129.out] at ho
                have n0_ := Aside0.mk (blk_grown (g := gb120) (o := .cells #[.int .u64 a0_0, .int .u64 a0_1] 24 (0, 0)) (blk_drew (blk_alloc BK120.out _)) hg (Kd.R_ne HO_10.out BK120.out (by decide)))
                have n1_ := Aside0.mk hb
                have n2_ := Aside0.mk ho
                clear BK120
                clear HB
                clear HO_10
                have BK120 := n0_
                have HB := n1_
                have HO131 := n2_
                clear n0_ n1_ n2_
                clear ho hb hg hat
                refine hK.out _ _ ⟨((HG.out.below (HB.out)) ((n : Int) / 16).toNat (by omega)), ((HG.out.below (HB.out)) (Go.bits .and .u8 (n : Int) 15).toNat (by omega))⟩ (fun hHeld => ?_)
                clear hK K
                refine norm_ (a' := ?_) ?_ ?_
                rotate_left
                ·
                 show Act.put _ (some 82) _ = _
                 simp only [Act.put, List.setIfInBounds_toArray, List.set_cons_zero, List.set_cons_succ, i64_w, i32_w]
                 rfl
                refine pure_ (i := 17) (N := some 10) (v := ?_) (a' := ?_) #[true, true, true, true, true, true, true, true, true, true, true, true, true, true, true, true, true, true] rfl rfl (by kernel_rfl) (fun _ _ _ h => h) (Or.inl ⟨by rfl, ?_⟩) ?_ ?_
                rotate_left
                ·
                 intro w'
                 go_simp
                 with_reducible rfl
                rotate_left
                ·
                 simp only [Act.put, List.setIfInBounds_toArray, List.set_cons_zero, List.set_cons_succ, i64_w, i32_w]
                 rfl
                refine done_ (by kernel_rfl) ?_
                all_goals
                 go_wp2
                 go_roundg k2
                 case measure => have := HJ3.out; have := HK2.out; omega
                 case rel => exact ⟨(y129), (wrap64 (x52_2 + 1)), (by first | rfl | (simp; done) | (simp [*]; done)), H', ⟨by have := HJ3.out; have := HK2.out; omega⟩, ⟨by (with_reducible repeat (first | apply Kd.R_alloc | apply Kd.R_drewN | apply Kd.R_drew)); exact HO131.out⟩, ⟨by (with_reducible repeat (first | refine blk_drewN ?_ _ | refine blk_drew ?_ | refine blk_alloc ?_ _)); exact BK120.out⟩, ⟨by repeat (first | (with_reducible first | exact HB.out | apply below_alloc | apply pw_below_drewN | apply below_drew1 | refine below_set ?_ GE120.out) | exact HB.out)⟩⟩
               ·
                rw [if_neg c43] at H
                exact absurd H (by simp)
              ·
               rw [if_neg c47] at H
               exact absurd H (by simp)
             ·
              rw [if_neg c46] at H
              exact absurd H (by simp)
           ·
            rw [if_neg c37] at H
            have c37b0 : decide (x52_2 < (t126.size : Int)) = false := decide_eq_false c37
            clear c37
            by_cases c49 : a2 = 4
            ·
             rw [if_pos c49] at H
             have c49b0 : (a2 == 4) = true := beq_iff_eq.mpr c49
             have c49b1 : (a2 != 4) = false := bne_eq_false_iff_eq.mpr c49
             clear c49
             replace H := Option.bind_eq_some_iff.mp H
             obtain ⟨t132, A500, H⟩ := H
             replace H : (some (t132, 0)) = some (r1, r2) := H
             have A50 := Aside0.mk A500
             clear A500
             simp only [Option.some.injEq, Prod.mk.injEq] at H
             obtain ⟨rfl, rfl⟩ := H
             obtain ⟨Ao51, co51, eo51⟩ := Kd.R_slice HO_10.out
             subst eo51
             go_wp2_with (first | ((with_reducible refine gate_callee (f := 41) rfl ?_); refine goesL_ (some 87) rfl rfl Tryd.func41 (by kernel_rfl) rfl #[.slice Ao51 x10_2.length co51, .string (⟨#[46]⟩ : ByteArray)] rfl (by (try simp only [List.map_toArray, List.map_cons, List.map_nil]); first | done | rfl | (simp only [List.length_drop, List.length_take]; rfl)) ?_; (with_reducible refine (strings_Join.calls _ _ x10_2 (⟨#[46]⟩ : ByteArray) t132 _ ?side1 ?side2 A50.out).mono ?_); (case side1 => repeat (first | exact (Kd.R_reads' HO_10.out).2.2 | (with_reducible refine Kd.C_alloc ?_ _) | (with_reducible refine Kd.C_drewN ?_ _) | (with_reducible refine Kd.C_drew ?_))); (case side2 => exact (Kd.R_reads' HO_10.out).2.1); rintro e w52 ⟨rfl, hb⟩; refine ⟨_, rfl, ?_⟩; have n0_ := Aside0.mk (Kd.R_below (by (with_reducible repeat (first | apply Kd.R_alloc | apply Kd.R_drewN | apply Kd.R_drew)); exact HO_10.out) hb); have n1_ := Aside0.mk (blk_below (g := gb120) (o := .cells #[.int .u64 a0_0, .int .u64 a0_1] 24 (0, 0)) (by (with_reducible repeat (first | refine blk_drewN ?_ _ | refine blk_drew ?_ | refine blk_alloc ?_ _)); exact BK120.out) hb); have n2_ := Aside0.mk (below_step (by repeat (first | (with_reducible first | exact HB.out | apply below_alloc | apply pw_below_drewN | apply below_drew1 | refine below_set ?_ GE120.out) | exact HB.out)) hb); clear HO_10; clear BK120; clear HB; have HO_10 := n0_; have BK120 := n1_; have HB := n2_; clear n0_ n1_ n2_; (try clear hb); (try clear hb2); (try clear hk); (try clear hi)))
             go_ret2
             exact ⟨by first | rfl | (simp [errW_none, errW_some] <;> rfl) | (simp [*, errW_none, errW_some] <;> rfl), by repeat (first | (with_reducible first | exact HB.out | apply below_alloc | apply pw_below_drewN | apply below_drew1 | refine below_set ?_ GE120.out) | exact HB.out)⟩
            ·
             rw [if_neg c49] at H
             have c49b0 : (a2 == 4) = false := beq_eq_false_iff_ne.mpr c49
             have c49b1 : (a2 != 4) = true := bne_iff_ne.mpr c49
             replace H := Option.bind_eq_some_iff.mp H
             obtain ⟨t133, A530, H⟩ := H
             replace H : (some (t133, 0)) = some (r1, r2) := H
             have A53 := Aside0.mk A530
             clear A530
             simp only [Option.some.injEq, Prod.mk.injEq] at H
             obtain ⟨rfl, rfl⟩ := H
             obtain ⟨Ao54, co54, eo54⟩ := Kd.R_slice HO_10.out
             subst eo54
             go_wp2_with (first | ((with_reducible refine gate_callee (f := 41) rfl ?_); refine goesL_ (some 89) rfl rfl Tryd.func41 (by kernel_rfl) rfl #[.slice Ao54 x10_2.length co54, .string (⟨#[58]⟩ : ByteArray)] rfl (by (try simp only [List.map_toArray, List.map_cons, List.map_nil]); first | done | rfl | (simp only [List.length_drop, List.length_take]; rfl)) ?_; (with_reducible refine (strings_Join.calls _ _ x10_2 (⟨#[58]⟩ : ByteArray) t133 _ ?side1 ?side2 A53.out).mono ?_); (case side1 => repeat (first | exact (Kd.R_reads' HO_10.out).2.2 | (with_reducible refine Kd.C_alloc ?_ _) | (with_reducible refine Kd.C_drewN ?_ _) | (with_reducible refine Kd.C_drew ?_))); (case side2 => exact (Kd.R_reads' HO_10.out).2.1); rintro e w55 ⟨rfl, hb⟩; refine ⟨_, rfl, ?_⟩; have n0_ := Aside0.mk (Kd.R_below (by (with_reducible repeat (first | apply Kd.R_alloc | apply Kd.R_drewN | apply Kd.R_drew)); exact HO_10.out) hb); have n1_ := Aside0.mk (blk_below (g := gb120) (o := .cells #[.int .u64 a0_0, .int .u64 a0_1] 24 (0, 0)) (by (with_reducible repeat (first | refine blk_drewN ?_ _ | refine blk_drew ?_ | refine blk_alloc ?_ _)); exact BK120.out) hb); have n2_ := Aside0.mk (below_step (by repeat (first | (with_reducible first | exact HB.out | apply below_alloc | apply pw_below_drewN | apply below_drew1 | refine below_set ?_ GE120.out) | exact HB.out)) hb); clear HO_10; clear BK120; clear HB; have HO_10 := n0_; have BK120 := n1_; have HB := n2_; clear n0_ n1_ n2_; (try clear hb); (try clear hb2); (try clear hk); (try clear hi)))
             go_ret2
             exact ⟨by first | rfl | (simp [errW_none, errW_some] <;> rfl) | (simp [*, errW_none, errW_some] <;> rfl), by repeat (first | (with_reducible first | exact HB.out | apply below_alloc | apply pw_below_drewN | apply below_drew1 | refine below_set ?_ GE120.out) | exact HB.out)⟩
     ·
      replace c11 := Bool.eq_false_iff.mpr c11
      subst c11
      have H1 : (some ((⟨#[]⟩ : ByteArray), 11)) = some (r1, r2) := by rw [if_neg (show ¬ (false = true) by decide)] at H; exact H
      clear H
      have H := H1
      clear H1
      simp only [Option.some.injEq, Prod.mk.injEq] at H
      obtain ⟨rfl, rfl⟩ := H
      go_wp2_with (first | ((with_reducible refine gate_callee (f := 39) rfl ?_); refine goesL_ (some 22) rfl rfl Tryd.func39 (by kernel_rfl) rfl #[.int .i64 a1, .int .i64 a2] rfl (by (try simp only [List.map_toArray, List.map_cons, List.map_nil]); first | done | rfl | (simp only [List.length_drop, List.length_take]; rfl)) ?_; (with_reducible refine (value_has.calls a1 a2 true _ A8.out).mono ?_); rintro e w' ⟨rfl, ⟨nd, rfl⟩⟩; refine ⟨_, rfl, ?_⟩; have hcz56_0 : wc.cell? ⟨gb120, 0, none⟩ = some (.int .u64 a0_0) := (blk_cell BK120.out 0).trans rfl; have hcz56_1 : wc.cell? ⟨gb120, 1, none⟩ = some (.int .u64 a0_1) := (blk_cell BK120.out 1).trans rfl; have hfz56_0 := blk_frozen BK120.out 0; have hfz56_1 := blk_frozen BK120.out 1) | ((with_reducible refine gate_callee (f := 19) rfl ?_); refine goesL_ (some 27) rfl rfl Tryd.func19 (by kernel_rfl) rfl #[.agg #[.int .u64 a0_0, .int .u64 a0_1], .int .i64 a1] rfl (by (try simp only [List.map_toArray, List.map_cons, List.map_nil]); first | done | rfl | (simp only [List.length_drop, List.length_take]; rfl)) ?_; (with_reducible refine (value_Fits.calls a0_0 a0_1 a1 false _ A10.out).mono ?_); rintro e w57 ⟨rfl, hb⟩; refine ⟨_, rfl, ?_⟩; have n0_ := Aside0.mk (blk_below (g := gb120) (o := .cells #[.int .u64 a0_0, .int .u64 a0_1] 24 (0, 0)) (by (with_reducible repeat (first | refine blk_drewN ?_ _ | refine blk_drew ?_ | refine blk_alloc ?_ _)); exact BK120.out) hb); have n1_ := Aside0.mk (below_step (by repeat (first | (with_reducible first | exact HB.out | apply below_alloc | apply pw_below_drewN | apply below_drew1 | refine below_set ?_ GE120.out) | exact HB.out)) hb); clear BK120; clear HB; have BK120 := n0_; have HB := n1_; clear n0_ n1_; (try clear hb); (try clear hb2); (try clear hk); (try clear hi)))
      go_ret2
      exact ⟨by first | rfl | (simp [errW_none, errW_some] <;> rfl) | (simp [*, errW_none, errW_some] <;> rfl), by repeat (first | (with_reducible first | exact HB.out | apply below_alloc | apply pw_below_drewN | apply below_drew1 | refine below_set ?_ GE120.out) | exact HB.out)⟩
    ·
     replace c9 := Bool.eq_false_iff.mpr c9
     subst c9
     have H1 : (some ((⟨#[]⟩ : ByteArray), 10)) = some (r1, r2) := by rw [if_neg (show ¬ (false = true) by decide)] at H; exact H
     clear H
     have H := H1
     clear H1
     simp only [Option.some.injEq, Prod.mk.injEq] at H
     obtain ⟨rfl, rfl⟩ := H
     go_wp2_with (first | ((with_reducible refine gate_callee (f := 39) rfl ?_); refine goesL_ (some 22) rfl rfl Tryd.func39 (by kernel_rfl) rfl #[.int .i64 a1, .int .i64 a2] rfl (by (try simp only [List.map_toArray, List.map_cons, List.map_nil]); first | done | rfl | (simp only [List.length_drop, List.length_take]; rfl)) ?_; (with_reducible refine (value_has.calls a1 a2 false _ A8.out).mono ?_); rintro e w' ⟨rfl, ⟨nd, rfl⟩⟩; refine ⟨_, rfl, ?_⟩))
     go_ret2
     exact ⟨by first | rfl | (simp [errW_none, errW_some] <;> rfl) | (simp [*, errW_none, errW_some] <;> rfl), by repeat (first | (with_reducible first | exact HB.out | apply below_alloc | apply pw_below_drewN | apply below_drew1 | refine below_set ?_ GE120.out) | exact HB.out)⟩
end Go.Proofs.YtofnhgpiipmegaaDoor.PV
