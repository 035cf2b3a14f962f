/- value.Add and value.Sub: what they come to, by the sums of the halves with a carry, cut to the width. -/
import Derived.Test.YtofnhgpiipmegaaDoorPVx0
import Derived.Test.YtofnhgpiipmegaaDoorPVx1
import Derived.Test.YtofnhgpiipmegaaDoorPVx2
import Derived.Test.YtofnhgpiipmegaaDoorPVx3
import Derived.Test.YtofnhgpiipmegaaDoorPVx4
import Derived.Test.YtofnhgpiipmegaaDoorPVx5
import Derived.Laws.Externs
namespace Go.Proofs.YtofnhgpiipmegaaDoor.PV
open Go.RowKit Go.Proofs.YtofnhgpiipmegaaDoorW.PrintWords Go.Proofs.YtofnhgpiipmegaaDoorW.PrintLast Go.Proofs.YtofnhgpiipmegaaDoorW.PrintMore
set_option linter.unusedVariables false
set_option linter.unusedSimpArgs false
/-- A number of 64 bits. -/
def inU (x : Int) : Bool := decide (0 ≤ x) && decide (x < 18446744073709551616)
theorem inU_lo {x : Int} (h : inU x = true) : 0 ≤ x := by unfold inU at h; simp at h; exact h.1
theorem inU_hi {x : Int} (h : inU x = true) : x < 18446744073709551616 := by unfold inU at h; simp at h; exact h.2
/-- The sum's half, the carry. -/
def addHi (x y c : Int) : Int := (x + y + c) % 18446744073709551616
def addCz (x y c : Int) : Int := (x + y + c) / 18446744073709551616
theorem run_add57 (x y c : Int) (hx : 0 ≤ x) (hy : 0 ≤ y) (hc0 : 0 ≤ c) (hc : c ≤ 1) (w : World) :
    (callFunc 57 #[.int .u64 x, .int .u64 y, .int .u64 c]).run Tryd.prog w = .ok (.value (.tuple #[.int .u64 (addHi x y c), .int .u64 (addCz x y c)])) w := by
  rw [run_callFunc_extern Tryd.func57 (by kernel_rfl) (by kernel_rfl) (by kernel_rfl) (e := add64Entry) (by kernel_rfl), run_add64 x y c hx hy hc0 hc]
  rfl
/-- The difference's low half, the borrow (0 or 1), the difference's high half. -/
def subLo (x y b : Int) : Int := (x - y - b) % 18446744073709551616
def subBw (x y b : Int) : Int := if x < y + b then 1 else 0
/-- The model's entry for math/bits.Sub64. -/
def sub64E : Array Value → Sem Value := fun args => do
  let (x, y, b) ← Extern.MathBitsCarry.three "Sub64" args
  pure (Extern.MathBitsCarry.pair ((x + Extern.MathBitsCarry.m64 - y - b) % Extern.MathBitsCarry.m64) (if x < y + b then 1 else 0))
theorem run_sub64E {P : Program} (x y b : Int) (hx : 0 ≤ x) (hy : 0 ≤ y) (hy2 : y < 18446744073709551616) (hb0 : 0 ≤ b) (hb : b ≤ 1) (w : World) :
    (sub64E #[.int .u64 x, .int .u64 y, .int .u64 b]).run P w = .ok (.tuple #[.int .u64 (subLo x y b), .int .u64 (subBw x y b)]) w := by
  have key : ∀ k : Nat, k ≤ 1 → (sub64E #[.int .u64 x, .int .u64 y, .int .u64 (k : Int)]).run P w =
      .ok (Extern.MathBitsCarry.pair ((x.toNat + Extern.MathBitsCarry.m64 - y.toNat - k) % Extern.MathBitsCarry.m64) (if x.toNat < y.toNat + k then 1 else 0)) w := by
    intro k hk
    have : k = 0 ∨ k = 1 := by omega
    rcases this with rfl | rfl <;> rfl
  obtain ⟨k, rfl⟩ := Int.eq_ofNat_of_zero_le hb0
  rw [key k (by omega)]
  obtain ⟨X, rfl⟩ := Int.eq_ofNat_of_zero_le hx
  obtain ⟨Y, rfl⟩ := Int.eq_ofNat_of_zero_le hy
  have e1 : (((X + Extern.MathBitsCarry.m64 - Y - k) % Extern.MathBitsCarry.m64 : Nat) : Int) = subLo (X : Int) (Y : Int) (k : Int) := by
    unfold subLo Extern.MathBitsCarry.m64; omega
  have e2 : (((if X < Y + k then 1 else 0 : Nat)) : Int) = subBw (X : Int) (Y : Int) (k : Int) := by
    unfold subBw; split <;> split <;> omega
  simp only [Extern.MathBitsCarry.pair, Int.toNat_natCast, Int.ofNat_eq_natCast, e1, e2]
theorem run_sub58 (x y c : Int) (hx : 0 ≤ x) (hy : 0 ≤ y) (hy2 : y < 18446744073709551616) (hc0 : 0 ≤ c) (hc : c ≤ 1) (w : World) :
    (callFunc 58 #[.int .u64 x, .int .u64 y, .int .u64 c]).run Tryd.prog w = .ok (.value (.tuple #[.int .u64 (subLo x y c), .int .u64 (subBw x y c)])) w := by
  rw [run_callFunc_extern Tryd.func58 (by kernel_rfl) (by kernel_rfl) (by kernel_rfl) (e := sub64E) (by kernel_rfl), run_sub64E x y c hx hy hy2 hc0 hc]
  rfl
theorem subBw_bd (x y c : Int) : 0 ≤ subBw x y c ∧ subBw x y c ≤ 1 := by unfold subBw; split <;> omega
def value_Sub.f (a0_0 a0_1 a1_0 a1_1 a2 : Int) : Option (Int × Int) :=
  if (inU a0_0 && inU a0_1 && inU a1_0 && inU a1_1) = true then value_Cut.f (subLo a0_0 a1_0 (subBw a0_1 a1_1 0)) (subLo a0_1 a1_1 0) a2 else none
def value_Add.f (a0_0 a0_1 a1_0 a1_1 a2 : Int) : Option (Int × Int) :=
  if (inU a0_0 && inU a0_1 && inU a1_0 && inU a1_1) = true then value_Cut.f (addHi a0_0 a1_0 (addCz a0_1 a1_1 0)) (addHi a0_1 a1_1 0) a2 else none
theorem addCz_bd {x y c : Int} (hx : inU x = true) (hy : inU y = true) (h0 : 0 ≤ c) (h1 : c ≤ 1) : 0 ≤ addCz x y c ∧ addCz x y c ≤ 1 := by
  have := inU_lo hx; have := inU_hi hx; have := inU_lo hy; have := inU_hi hy
  unfold addCz; omega
theorem blk_at {w : World} {o : Obj} {g : Nat} (h : g = w.heap.size) : (w.alloc o).heap[g]? = some o := h ▸ blk_new w o
set_option maxHeartbeats 8000000 in
set_option maxRecDepth 100000 in
theorem value_Add.calls (a0_0 a0_1 a1_0 a1_1 a2 r1 r2 : Int) (w : World) (h : value_Add.f a0_0 a0_1 a1_0 a1_1 a2 = some (r1, r2)) :
    Calls Tryd.prog 16 #[.agg #[.int .u64 a0_0, .int .u64 a0_1], .agg #[.int .u64 a1_0, .int .u64 a1_1], .int .i64 a2] w fun e w' => e = .returned (.agg #[.int .u64 r1, .int .u64 r2]) ∧ Below w.heap.size w w' := by
  have hu24 := Tryd.underlying24
  unfold value_Add.f at h
  split at h
  case isFalse => exact absurd h (by simp)
  rename_i hc
  simp only [Bool.and_eq_true] at hc
  obtain ⟨⟨⟨u1, u2⟩, u3⟩, u4⟩ := hc
  have hbd := addCz_bd u2 u4 (Int.le_refl 0) (by decide)
  have r57 := fun w => run_add57 a0_1 a1_1 0 (inU_lo u2) (inU_lo u4) (Int.le_refl 0) (by decide) w
  have r57' := fun w => run_add57 a0_0 a1_0 (addCz a0_1 a1_1 0) (inU_lo u1) (inU_lo u3) hbd.1 hbd.2 w
  generalize addHi a0_0 a1_0 (addCz a0_1 a1_1 0) = hi at *
  generalize addHi a0_1 a1_1 0 = lo at *
  generalize addCz a0_1 a1_1 0 = cy at *
  have A := Aside0.mk h
  clear h hbd u1 u2 u3 u4
  go_enter Tryd.func16, Tryd.ntmps16
  go_wp2_with fail
  refine (value_Cut.calls hi lo a2 r1 r2 _ A.out).mono ?_
  rintro e w1 ⟨rfl, hb⟩
  have BK : w1.heap[w.heap.size + 1 + 1]? = some (.cells #[.int .u64 0, .int .u64 0] 24 (0, 0)) := by
    have hz := hb.block (w.heap.size + 1 + 1) (by simp only [World.size_alloc]; omega)
    rw [hz]; exact blk_at (by simp only [World.size_alloc])
  have HB := Aside0.mk (below_step (below_alloc (below_alloc (below_alloc (Below.refl w.heap.size w) _) _) _) hb)
  clear hb r57 r57' A
  have hcz0 : w1.cell? ⟨w.heap.size + 1 + 1, 0, none⟩ = some (.int .u64 0) := (blk_cell BK 0).trans rfl
  have hcz1 : w1.cell? ⟨w.heap.size + 1 + 1, 1, none⟩ = some (.int .u64 0) := (blk_cell BK 1).trans rfl
  have hfz0 := blk_frozen BK 0
  have hfz1 := blk_frozen BK 1
  have BK' := Aside0.mk BK
  clear BK
  go_wp2
  refine bodyPost_ret (results_cell_row rfl _ _ (w.heap.size + 1 + 1) 24 #[.int .u64 r1, .int .u64 r2] (0, 0) _ rfl (blk_put (cs := #[.int .u64 r1, .int .u64 0]) (blk_put (cs := #[.int .u64 0, .int .u64 0]) BK'.out 0 _ rfl) 1 _ rfl) Tryd.underlying24 rfl (by kernel_rfl)) rfl ?_
  exact ⟨rfl, below_set (below_set HB.out (Nat.le_trans (Nat.le_succ _) (Nat.le_succ _))) (Nat.le_trans (Nat.le_succ _) (Nat.le_succ _))⟩
set_option maxHeartbeats 8000000 in
set_option maxRecDepth 100000 in
theorem value_Sub.calls (a0_0 a0_1 a1_0 a1_1 a2 r1 r2 : Int) (w : World) (h : value_Sub.f a0_0 a0_1 a1_0 a1_1 a2 = some (r1, r2)) :
    Calls Tryd.prog 18 #[.agg #[.int .u64 a0_0, .int .u64 a0_1], .agg #[.int .u64 a1_0, .int .u64 a1_1], .int .i64 a2] w fun e w' => e = .returned (.agg #[.int .u64 r1, .int .u64 r2]) ∧ Below w.heap.size w w' := by
  have hu24 := Tryd.underlying24
  unfold value_Sub.f at h
  split at h
  case isFalse => exact absurd h (by simp)
  rename_i hc
  simp only [Bool.and_eq_true] at hc
  obtain ⟨⟨⟨u1, u2⟩, u3⟩, u4⟩ := hc
  have hbd := subBw_bd a0_1 a1_1 0
  have r57 := fun w => run_sub58 a0_1 a1_1 0 (inU_lo u2) (inU_lo u4) (inU_hi u4) (Int.le_refl 0) (by decide) w
  have r57' := fun w => run_sub58 a0_0 a1_0 (subBw a0_1 a1_1 0) (inU_lo u1) (inU_lo u3) (inU_hi u3) hbd.1 hbd.2 w
  generalize subLo a0_0 a1_0 (subBw a0_1 a1_1 0) = hi at *
  generalize subLo a0_1 a1_1 0 = lo at *
  generalize subBw a0_1 a1_1 0 = cy at *
  have A := Aside0.mk h
  clear h hbd u1 u2 u3 u4
  go_enter Tryd.func18, Tryd.ntmps18
  go_wp2_with fail
  refine (value_Cut.calls hi lo a2 r1 r2 _ A.out).mono ?_
  rintro e w1 ⟨rfl, hb⟩
  have BK : w1.heap[w.heap.size + 1 + 1]? = some (.cells #[.int .u64 0, .int .u64 0] 24 (0, 0)) := by
    have hz := hb.block (w.heap.size + 1 + 1) (by simp only [World.size_alloc]; omega)
    rw [hz]; exact blk_at (by simp only [World.size_alloc])
  have HB := Aside0.mk (below_step (below_alloc (below_alloc (below_alloc (Below.refl w.heap.size w) _) _) _) hb)
  clear hb r57 r57' A
  have hcz0 : w1.cell? ⟨w.heap.size + 1 + 1, 0, none⟩ = some (.int .u64 0) := (blk_cell BK 0).trans rfl
  have hcz1 : w1.cell? ⟨w.heap.size + 1 + 1, 1, none⟩ = some (.int .u64 0) := (blk_cell BK 1).trans rfl
  have hfz0 := blk_frozen BK 0
  have hfz1 := blk_frozen BK 1
  have BK' := Aside0.mk BK
  clear BK
  go_wp2
  refine bodyPost_ret (results_cell_row rfl _ _ (w.heap.size + 1 + 1) 24 #[.int .u64 r1, .int .u64 r2] (0, 0) _ rfl (blk_put (cs := #[.int .u64 r1, .int .u64 0]) (blk_put (cs := #[.int .u64 0, .int .u64 0]) BK'.out 0 _ rfl) 1 _ rfl) Tryd.underlying24 rfl (by kernel_rfl)) rfl ?_
  exact ⟨rfl, below_set (below_set HB.out (Nat.le_trans (Nat.le_succ _) (Nat.le_succ _))) (Nat.le_trans (Nat.le_succ _) (Nat.le_succ _))⟩
end Go.Proofs.YtofnhgpiipmegaaDoor.PV
