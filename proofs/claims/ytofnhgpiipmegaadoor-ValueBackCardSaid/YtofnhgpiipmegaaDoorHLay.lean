/- The reference's layout of a value as 128 bits, highest first: what 'lay' and 'take' come to. -/
import Derived.Test.YtofnhgpiipmegaaDoorHAdd
namespace Go.Proofs.YtofnhgpiipmegaaDoor.PV
open Go.RowKit Go.Proofs.YtofnhgpiipmegaaDoorW.PrintWords Go.Proofs.YtofnhgpiipmegaaDoorW.PrintLast Go.Proofs.YtofnhgpiipmegaaDoorW.PrintMore
set_option linter.unusedVariables false
set_option linter.unusedSimpArgs false
/-- Bit k of a half, as the code tells it. -/
def bitk (x : Int) (k : Nat) : Bool := bits BinOp.and IntKind.u64 (x / 2 ^ k) 1 == 1
/-- The layout after k rounds. -/
def layN (hi lo : Int) (k : Nat) : List Bool := (List.range 128).map fun j => if j < 64 then decide (63 - j < k) && bitk hi (63 - j) else decide (127 - j < k) && bitk lo (127 - j)
def bcells (l : List Bool) : Array Value := (l.map Value.bool).toArray
theorem layN_length (hi lo : Int) (k : Nat) : (layN hi lo k).length = 128 := by simp [layN]
theorem bcells_size (l : List Bool) : (bcells l).size = l.length := by simp [bcells]
theorem layN_step (hi lo : Int) (k : Nat) (hk : k < 64) : ((layN hi lo k).set (63 - k) (bitk hi k)).set (127 - k) (bitk lo k) = layN hi lo (k + 1) := by
  apply List.ext_getElem
  · simp [layN]
  intro j h1 h2
  have hj : j < 128 := by simpa [layN] using h2
  simp only [layN, List.getElem_set, List.getElem_map, List.getElem_range]
  by_cases ha : 127 - k = j
  · subst ha
    rw [if_pos rfl, if_neg (by omega)]
    have e : 127 - (127 - k) = k := by omega
    rw [e]; simp
  · rw [if_neg ha]
    by_cases hb2 : 63 - k = j
    · subst hb2
      rw [if_pos rfl, if_pos (by omega)]
      have e : 63 - (63 - k) = k := by omega
      rw [e]; simp
    · rw [if_neg hb2]
      by_cases hj2 : j < 64
      · rw [if_pos hj2, if_pos hj2]
        have : decide (63 - j < k) = decide (63 - j < k + 1) := by congr 1; apply propext; omega
        rw [this]
      · rw [if_neg hj2, if_neg hj2]
        have : decide (127 - j < k) = decide (127 - j < k + 1) := by congr 1; apply propext; omega
        rw [this]
theorem bcells_set (l : List Bool) (i : Nat) (b : Bool) : (bcells l).setIfInBounds i (.bool b) = bcells (l.set i b) := by
  simp [bcells, List.map_set]
theorem bcells_get (l : List Bool) (i : Nat) (h : i < l.length) : (bcells l)[i]? = some (.bool (l.getD i false)) := by
  simp [bcells, h, List.getD]
/-- The layout. -/
def layL (hi lo : Int) : List Bool := layN hi lo 64
theorem zero69 : Tryd.zeroCells69 = bcells (List.replicate 128 false) := by kernel_rfl
theorem layN_zero (hi lo : Int) : layN hi lo 0 = List.replicate 128 false := by
  apply List.ext_getElem
  · simp [layN]
  intro j h1 h2
  simp only [layN, List.getElem_map, List.getElem_range, List.getElem_replicate]
  simp
def LayRel (w : World) (hi lo : Int) (k : Nat) (wr : World) : Prop :=
  wr.heap[w.heap.size]? = some (.cells #[.int .u64 hi, .int .u64 lo] 24 (0, 0)) ∧ wr.heap[w.heap.size + 1]? = some (.cells Tryd.zeroCells69 69 (0, 0)) ∧ wr.heap[w.heap.size + 1 + 1]? = some (.cells (bcells (layN hi lo k)) 69 (0, 0)) ∧ Below w.heap.size w wr
/-- A whole row stored at a block's head. -/
theorem run_storeVar_row {P : Program} (w : World) (g : Nat) (t ty : TypeId) (cs cur : Array Value) (hg : w.heap[g]? = some (.cells cur t (0, 0)))
    (hi : (P.info? ty).map (·.size) = some cs.size) (hs : cs.size = cur.size) (h1 : ∀ v ∈ cs.toList, v.oneCell' = true) :
    (storeVar ty ⟨g, 0, none⟩ (.agg cs)).run P w = .ok () (w.setRow g cs) := by
  have hst := run_storeCells_at (P := P) g 0 t cs.toList 0 cur w hg (by simp [hs]) h1
  cases hq : P.info? ty with
  | none => simp [hq] at hi
  | some i =>
    have hz : i.size = cs.size := by simpa [hq] using hi
    have e : (cur.toList.take (0 + 0) ++ cs.toList ++ cur.toList.drop (0 + 0 + cs.toList.length)).toArray = cs := by
      rw [List.drop_eq_nil_of_le (by simp [hs])]; simp
    rw [e] at hst
    simp [storeVar, sizeOf, typeInfo, hq, hz, Value.cells, hst]
/-- The operation. -/
theorem wpList_store_row {P : Program} {ops : Array Oper} {rest : List Oper} {o : Oper} {a : Act} {w : World} {Q : Exit → Act → World → Prop} (hgd : o.guard = none) (ty : TypeId) (x y : Operand) (ho : o.op = .store ty x y) (hdst : o.dst = none)
    (g : Nat) (hx : a.eval x = .pointer (some ⟨g, 0, none⟩)) (cs : Array Value) (hy : a.eval y = .agg cs) (t : TypeId) (cur : Array Value) (hg : w.heap[g]? = some (.cells cur t (0, 0)))
    (hi : (P.info? ty).map (·.size) = some cs.size) (hs : cs.size = cur.size) (h1 : ∀ v ∈ cs.toList, v.oneCell' = true)
    (h : wpList P ops Q rest a (w.setRow g cs)) : wpList P ops Q (o :: rest) a w :=
  wpList_plain hgd fun _ hK => by
    unfold Oper.wp execOp
    simp only [ho, hx, hy, Instr.storeAt, Instr.sureAddr, Sem.run_bind, Sem.run_pure, Result.andThen_ok, run_storeVar_row w g t ty cs cur hg hi hs h1]
    rw [Oper.upon_skip]
    have := hK _ _ h
    cases a; simpa [Act.put, hdst] using this
theorem bcells_one (l : List Bool) : ∀ v ∈ (bcells l).toList, v.oneCell' = true := by
  intro v hv
  simp [bcells] at hv
  rcases hv with ⟨_, rfl⟩ | ⟨_, rfl⟩ <;> rfl
theorem setRow_blk {w : World} {g : Nat} {cur cs : Array Value} {t : TypeId} (h : w.heap[g]? = some (.cells cur t (0, 0))) : (w.setRow g cs).heap[g]? = some (.cells cs t (0, 0)) := setRow_heap w g cur cs t (0, 0) h
theorem setRow_far {w : World} {g k : Nat} {cs : Array Value} (h : k ≠ g) : (w.setRow g cs).heap[k]? = w.heap[k]? := setRow_other w g k cs h
theorem below_setRow {B : Nat} {w W : World} (h : Below B w W) {g : Nat} (cs : Array Value) (hg : B ≤ g) : Below B w (W.setRow g cs) :=
  ⟨h.os, h.tape, h.output, by rw [size_setRow]; exact h.size, fun i hi => (setRow_far (Nat.ne_of_lt (Nat.lt_of_lt_of_le hi hg))).trans (h.block i hi)⟩
set_option maxHeartbeats 8000000 in
set_option maxRecDepth 100000 in
theorem lay_calls (a0_0 a0_1 : Int) (w : World) :
    Calls Tryd.prog 63 #[.agg #[.int .u64 a0_0, .int .u64 a0_1]] w fun e w' => e = .returned (.agg (bcells (layL a0_0 a0_1))) ∧ Below w.heap.size w w' := by
  have hu24 := Tryd.underlying24
  go_enter Tryd.func63, Tryd.ntmps63
  go_wp2_with fail
  go_loopw [4] (fun i wr => ∃ k : Nat, k ≤ 64 ∧ i = .int .i64 k ∧ LayRel w a0_0 a0_1 k wr) (fun i _ => 64 - (intOf i).toNat)
  case atStart =>
    refine ⟨0, by omega, rfl, ?_, ?_, ?_, below_alloc (below_alloc (below_alloc (Below.refl w.heap.size w) _) _) _⟩
    · exact blk_alloc (blk_alloc (blk_new _ _) _) _
    · exact blk_alloc (blk_at (by simp only [World.size_alloc])) _
    · rw [layN_zero, ← zero69]; exact blk_at (by simp only [World.size_alloc])
  case round =>
    obtain ⟨k, hk, rfl, hr⟩ := hrel
    obtain ⟨b0, b1, b2, hb⟩ := hr
    by_cases hlt : k < 64
    · have hcz0 : wr.cell? ⟨w.heap.size, 0, none⟩ = some (.int .u64 a0_0) := (blk_cell b0 0).trans rfl
      have hcz1 : wr.cell? ⟨w.heap.size, 1, none⟩ = some (.int .u64 a0_1) := (blk_cell b0 1).trans rfl
      have hcz2 : wr.cell? ⟨w.heap.size + 1 + 1, 63 - k, none⟩ = some (.bool ((layN a0_0 a0_1 k).getD (63 - k) false)) := (blk_cell b2 _).trans (bcells_get _ _ (by rw [layN_length]; omega))
      have hfz2 := blk_frozen b2 (63 - k)
      have b3 := blk_set b2 (63 - k) (.bool (bitk a0_0 k))
      rw [bcells_set] at b3
      have hcz3 : (wr.setCell ⟨w.heap.size + 1 + 1, 63 - k, none⟩ (.bool (bits BinOp.and IntKind.u64 (a0_0 / 2 ^ k) 1 == 1))).cell? ⟨w.heap.size + 1 + 1, 127 - k, none⟩ = some (.bool (((layN a0_0 a0_1 k).set (63 - k) (bitk a0_0 k)).getD (127 - k) false)) := (blk_cell b3 _).trans (bcells_get _ _ (by rw [List.length_set, layN_length]; omega))
      have hfz3 : (wr.setCell ⟨w.heap.size + 1 + 1, 63 - k, none⟩ (.bool (bits BinOp.and IntKind.u64 (a0_0 / 2 ^ k) 1 == 1))).frozen? ⟨w.heap.size + 1 + 1, 127 - k, none⟩ = false := blk_frozen b3 (127 - k)
      have b4 := blk_set b3 (127 - k) (.bool (bitk a0_1 k))
      rw [bcells_set, layN_step _ _ _ hlt] at b4
      have B0 := Aside0.mk (blk_far (blk_far b0 (p := ⟨w.heap.size + 1 + 1, 63 - k, none⟩) (by simp only []; omega) (.bool (bitk a0_0 k))) (p := ⟨w.heap.size + 1 + 1, 127 - k, none⟩) (by simp only []; omega) (.bool (bitk a0_1 k)))
      have B1 := Aside0.mk (blk_far (blk_far b1 (p := ⟨w.heap.size + 1 + 1, 63 - k, none⟩) (by simp only []; omega) (.bool (bitk a0_0 k))) (p := ⟨w.heap.size + 1 + 1, 127 - k, none⟩) (by simp only []; omega) (.bool (bitk a0_1 k)))
      have B4 := Aside0.mk b4
      have HB := Aside0.mk hb
      clear b0 b1 b2 hb b3 b4
      go_wp2
      go_roundw
      case rel => exact ⟨k + 1, by omega, by go_num, B0.out, B1.out, B4.out, below_set (below_set HB.out (by omega)) (by omega)⟩
      case measure => simp [intOf]; omega
    · obtain rfl : 64 = k := by omega
      have B1 := Aside0.mk b1
      have HB := Aside0.mk hb
      go_wp2_with (first | refine wpList_load_row rfl 69 _ rfl _ rfl 69 _ _ _ b2 Tryd.underlying69 rfl (by kernel_rfl) ?_ | refine wpList_store_row rfl 69 _ _ rfl rfl _ rfl _ rfl 69 _ b1 (by kernel_rfl) (by rw [bcells_size, layN_length, zero69, bcells_size, List.length_replicate]) (bcells_one _) ?_)
      refine bodyPost_ret (results_cell_row rfl _ _ (w.heap.size + 1) 69 (bcells (layN a0_0 a0_1 64)) (0, 0) _ rfl (setRow_blk B1.out) Tryd.underlying69 rfl (by kernel_rfl)) rfl ?_
      exact ⟨rfl, below_setRow HB.out _ (by omega)⟩
end Go.Proofs.YtofnhgpiipmegaaDoor.PV
