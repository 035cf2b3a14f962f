/- The reference's division by a small number, bit by bit. -/
import Derived.Test.YtofnhgpiipmegaaDoorHTake
namespace Go.Proofs.YtofnhgpiipmegaaDoor.PV
open Go.RowKit Go.Proofs.YtofnhgpiipmegaaDoorW.PrintWords Go.Proofs.YtofnhgpiipmegaaDoorW.PrintLast Go.Proofs.YtofnhgpiipmegaaDoorW.PrintMore
set_option linter.unusedVariables false
set_option linter.unusedSimpArgs false
theorem layL_length (hi lo : Int) : (layL hi lo).length = 128 := layN_length hi lo 64
theorem setRow_alloc (w : World) (cur cs : Array Value) (t : TypeId) (fz : Nat × Nat) : (w.alloc (.cells cur t fz)).setRow w.heap.size cs = w.alloc (.cells cs t fz) := by
  unfold World.setRow World.alloc
  congr 1
  apply Array.ext
  · simp
  intro i h1 h2
  simp only [Array.getElem_modify, Array.getElem_push]
  split
  · rename_i h; subst h; simp
  · rename_i h
    have h3 : i < w.heap.size := by simp at h2; omega
    simp [h3]
/-- A fresh array variable is given its first row. -/
theorem wpList_store_fresh {P : Program} {ops : Array Oper} {rest : List Oper} {o : Oper} {a : Act} {w : World} {Q : Exit → Act → World → Prop} (hgd : o.guard = none) (ty : TypeId) (x y : Operand) (ho : o.op = .store ty x y) (hdst : o.dst = none)
    (hx : a.eval x = .pointer (some ⟨w.heap.size, 0, none⟩)) (cs : Array Value) (hy : a.eval y = .agg cs) (t : TypeId) (cur : Array Value)
    (hi : (P.info? ty).map (·.size) = some cs.size) (hs : cs.size = cur.size) (h1 : ∀ v ∈ cs.toList, v.oneCell' = true)
    (h : wpList P ops Q rest a (w.alloc (.cells cs t (0, 0)))) : wpList P ops Q (o :: rest) a (w.alloc (.cells cur t (0, 0))) :=
  wpList_store_row hgd ty x y ho hdst w.heap.size hx cs hy t cur (blk_new w _) hi hs h1 (by rw [setRow_alloc]; exact h)
theorem size69 (l : List Bool) (h : l.length = 128) : (Tryd.prog.info? 69).map (·.size) = some (bcells l).size := by
  rw [bcells_size, h]; kernel_rfl
theorem same69 (l : List Bool) (h : l.length = 128) : (bcells l).size = Tryd.zeroCells69.size := by
  rw [zero69, bcells_size, bcells_size, h, List.length_replicate]
theorem take_callsR (l : List Bool) (hl : l.length = 128) (r1 r2 : Int) (h : takeHi l = r1 ∧ takeLo l = r2) (w : World) :
    Calls Tryd.prog 62 #[.agg (bcells l)] w fun e w' => e = .returned (.agg #[.int .u64 r1, .int .u64 r2]) ∧ Below w.heap.size w w' := by
  obtain ⟨rfl, rfl⟩ := h
  exact take_calls l hl w
def cutL (l : List Bool) (k : Nat) : List Bool := List.replicate k false ++ l.drop k
theorem cutL_length (l : List Bool) (k : Nat) (h : k ≤ l.length) : (cutL l k).length = l.length := by simp [cutL]; omega
theorem cutL_step (l : List Bool) (k : Nat) (h : k < l.length) : (cutL l k).set k false = cutL l (k + 1) := by
  apply List.ext_getElem
  · rw [List.length_set, cutL_length l k (by omega), cutL_length l (k + 1) (by omega)]
  intro j h1 h2
  simp only [cutL, List.getElem_set, List.getElem_append, List.length_replicate, List.getElem_replicate, List.getElem_drop]
  by_cases h3 : k = j
  · subst h3; simp
  · rw [if_neg h3]
    by_cases h4 : j < k
    · rw [dif_pos h4, dif_pos (by omega)]
    · rw [dif_neg h4, dif_neg (by omega)]
      congr 1; omega
def turnoutref01_Cut.f (a0_0 a0_1 a1 : Int) : Option (Int × Int) :=
  if 1 ≤ a1 ∧ a1 ≤ 128 then some (takeHi (cutL (layL a0_0 a0_1) (128 - a1.toNat)), takeLo (cutL (layL a0_0 a0_1) (128 - a1.toNat))) else some (0, 0)
theorem width_yes {a : Int} (h : 1 ≤ a ∧ a ≤ 128) : turnoutref01_Width.f a = some true := by
  unfold turnoutref01_Width.f; rw [if_pos h.1]; simp [h.2]
theorem width_no {a : Int} (h : ¬ (1 ≤ a ∧ a ≤ 128)) : turnoutref01_Width.f a = some false := by
  unfold turnoutref01_Width.f
  split
  · have : ¬ a ≤ 128 := by omega
    simp [this]
  · rfl
def CutRel (w : World) (l : List Bool) (k : Nat) (g5 : Nat) (wr : World) : Prop :=
  wr.heap[w.heap.size + 1]? = some (.cells #[.int .u64 0, .int .u64 0] 24 (0, 0)) ∧ wr.heap[g5]? = some (.cells (bcells (cutL l k)) 69 (0, 0)) ∧ w.heap.size + 1 < g5 ∧ Below w.heap.size w wr
set_option maxHeartbeats 8000000 in
set_option maxRecDepth 100000 in
theorem turnoutref01_Cut.calls (a0_0 a0_1 a1 r1 r2 : Int) (w : World) (h : turnoutref01_Cut.f a0_0 a0_1 a1 = some (r1, r2)) :
    Calls Tryd.prog 34 #[.agg #[.int .u64 a0_0, .int .u64 a0_1], .int .i64 a1] w fun e w' => e = .returned (.agg #[.int .u64 r1, .int .u64 r2]) ∧ Below w.heap.size w w' := by
  have hu24 := Tryd.underlying24
  unfold turnoutref01_Cut.f at h
  by_cases hw : 1 ≤ a1 ∧ a1 ≤ 128
  · rw [if_pos hw] at h
    obtain ⟨n, rfl⟩ : ∃ n : Nat, a1 = n := ⟨a1.toNat, by omega⟩
    rw [Int.toNat_natCast] at h
    have A := Aside0.mk (width_yes hw)
    have hn1 : 1 ≤ n := by omega
    have hn2 : n ≤ 128 := by omega
    simp only [Option.some.injEq, Prod.mk.injEq] at h
    have R := Aside0.mk h
    clear h hw
    go_enter Tryd.func34, Tryd.ntmps34
    go_wp2_with fail
    refine (turnoutref01_Width.calls _ true _ A.out).mono ?_
    rintro e w1 ⟨rfl, ⟨nd, rfl⟩⟩
    go_wp2_with fail
    refine (lay_calls a0_0 a0_1 _).mono ?_
    rintro e w1 ⟨rfl, hb⟩
    have hb1 := below_step (pw_below_drewN (below_alloc (below_alloc (Below.refl w.heap.size w) (.cells #[.int .u64 a0_0, .int .u64 a0_1] 24)) (.cells #[.int .u64 0, .int .u64 0] 24)) nd) hb
    have b4 : w1.heap[w.heap.size + 1]? = some (.cells #[.int .u64 0, .int .u64 0] 24 (0, 0)) := by
      have hz := hb.block (w.heap.size + 1) (by show w.heap.size + 1 < (World.alloc _ _).heap.size; simp only [World.size_alloc]; omega)
      rw [hz]; exact blk_drewN (blk_at (by simp only [World.size_alloc])) _
    have hsz : w.heap.size + 1 < w1.heap.size := blk_lt b4
    have HB := Aside0.mk hb1
    have B4 := Aside0.mk b4
    clear hb hb1 b4
    go_wp2_with (refine wpList_store_fresh rfl 69 _ _ rfl rfl rfl _ rfl 69 _ (size69 _ (layL_length _ _)) (same69 _ (layL_length _ _)) (bcells_one _) ?_)
    go_loopw [6] (fun i wr => ∃ k : Nat, k ≤ 128 - n ∧ i = .int .i64 k ∧ CutRel w (layL a0_0 a0_1) k w1.heap.size wr) (fun i _ => 128 - (intOf i).toNat)
    case atStart =>
      refine ⟨0, by omega, rfl, blk_alloc B4.out _, ?_, hsz, below_alloc HB.out _⟩
      have e : cutL (layL a0_0 a0_1) 0 = layL a0_0 a0_1 := by simp [cutL]
      rw [e]; exact blk_new _ _
    case round =>
      obtain ⟨k, hk, rfl, b4, b5, hs5, hb⟩ := hrel
      by_cases hlt : k < 128 - n
      · have hlt' : (k : Int) < 128 - (n : Int) := by omega
        have hcz : wr.cell? ⟨w1.heap.size, k, none⟩ = some (.bool ((cutL (layL a0_0 a0_1) k).getD k false)) := (blk_cell b5 _).trans (bcells_get _ _ (by rw [cutL_length _ _ (by rw [layL_length]; omega), layL_length]; omega))
        have hfz := blk_frozen b5 k
        have b6 := blk_set b5 k (.bool false)
        rw [bcells_set, cutL_step _ _ (by rw [layL_length]; omega)] at b6
        have B4' := Aside0.mk (blk_far b4 (p := ⟨w1.heap.size, k, none⟩) (by simp only []; omega) (.bool false))
        have B6 := Aside0.mk b6
        have HB' := Aside0.mk hb
        clear b4 b5 b6 hb
        go_wp2
        go_roundw
        case rel => exact ⟨k + 1, by omega, by go_num, B4'.out, B6.out, hs5, below_set HB'.out (by omega)⟩
        case measure => simp [intOf]; omega
      · have hge : ¬ (k : Int) < 128 - (n : Int) := by omega
        obtain rfl : 128 - n = k := by omega
        have l1 : (cutL (layL a0_0 a0_1) (128 - n)).length = 128 := by rw [cutL_length _ _ (by rw [layL_length]; omega), layL_length]
        have L1 := Aside0.mk l1
        have B4' := Aside0.mk b4
        have HB' := Aside0.mk hb
        clear b4 hb l1
        go_wp2_with (first | refine wpList_load_row rfl 69 _ rfl _ rfl 69 _ _ _ b5 Tryd.underlying69 rfl (size69 _ L1.out) ?_)
        refine (take_callsR _ L1.out r1 r2 R.out _).mono ?_
        rintro e w2 ⟨rfl, hb2⟩
        have b42 := blk_below B4'.out hb2
        have hcz0 : w2.cell? ⟨w.heap.size + 1, 0, none⟩ = some (.int .u64 0) := (blk_cell b42 0).trans rfl
        have hcz1 : w2.cell? ⟨w.heap.size + 1, 1, none⟩ = some (.int .u64 0) := (blk_cell b42 1).trans rfl
        have hfz0 := blk_frozen b42 0
        have hfz1 := blk_frozen b42 1
        have B42 := Aside0.mk b42
        have HB2 := Aside0.mk (below_step HB'.out hb2)
        clear b42 hb2 b5
        go_wp2
        refine bodyPost_ret (results_cell_row rfl _ _ (w.heap.size + 1) 24 #[.int .u64 r1, .int .u64 r2] (0, 0) _ rfl (blk_put (cs := #[_, _]) (blk_put (cs := #[_, _]) B42.out 0 _ rfl) 1 _ rfl) Tryd.underlying24 rfl (by kernel_rfl)) rfl ?_
        exact ⟨rfl, below_set (below_set HB2.out (by omega)) (by omega)⟩
  · rw [if_neg hw] at h
    simp only [Option.some.injEq, Prod.mk.injEq] at h
    obtain ⟨rfl, rfl⟩ := h
    have A := Aside0.mk (width_no hw)
    clear hw
    go_enter Tryd.func34, Tryd.ntmps34
    go_wp2_with fail
    refine (turnoutref01_Width.calls _ false _ A.out).mono ?_
    rintro e w1 ⟨rfl, ⟨nd, rfl⟩⟩
    go_wp2
    refine bodyPost_ret (results_cell_row rfl _ _ (w.heap.size + 1) 24 #[.int .u64 0, .int .u64 0] (0, 0) _ rfl (blk_put (cs := #[_, _]) (blk_put (cs := #[_, _]) (blk_drewN (heap_alloc2_new w _ _) _) 0 _ rfl) 1 _ rfl) Tryd.underlying24 rfl (by kernel_rfl)) rfl ?_
    exact ⟨rfl, below_set (below_set (pw_below_drewN (below_alloc (below_alloc (Below.refl w.heap.size w) _) _) _) (by omega)) (by omega)⟩
def maskL (w n : Nat) : List Bool := (List.range 128).map fun j => decide (128 - w ≤ j) && decide (j < 128 - w + n)
theorem maskL_length (w n : Nat) : (maskL w n).length = 128 := by simp [maskL]
theorem maskL_zero (w : Nat) : maskL w 0 = List.replicate 128 false := by
  apply List.ext_getElem
  · simp [maskL]
  intro j h1 h2
  simp only [maskL, List.getElem_map, List.getElem_range, List.getElem_replicate]
  simp
theorem maskL_step (w n : Nat) (h : 128 - w + n < 128) : (maskL w n).set (128 - w + n) true = maskL w (n + 1) := by
  apply List.ext_getElem
  · simp [maskL]
  intro j h1 h2
  simp only [maskL, List.getElem_set, List.getElem_map, List.getElem_range]
  by_cases h3 : 128 - w + n = j
  · rw [if_pos h3]; subst h3; simp
  · rw [if_neg h3]
    congr 1
    apply decide_eq_decide.2; omega
def turnoutref01_Mask.f (a0 a1 : Int) : Option (Int × Int × Int) :=
  if 1 ≤ a0 ∧ a0 ≤ 128 then (if 0 ≤ a1 ∧ a1 ≤ a0 then some (takeHi (maskL a0.toNat a1.toNat), takeLo (maskL a0.toNat a1.toNat), 0) else some (0, 0, 1)) else some (0, 0, 10)
def MaskRel (w : World) (m k : Nat) (wr : World) : Prop :=
  wr.heap[w.heap.size]? = some (.cells #[.int .u64 0, .int .u64 0] 24 (0, 0)) ∧ wr.heap[w.heap.size + 1]? = some (.cells (bcells (maskL m k)) 69 (0, 0)) ∧ Below w.heap.size w wr
set_option maxHeartbeats 8000000 in
set_option maxRecDepth 100000 in
theorem turnoutref01_Mask.calls (a0 a1 r1 r2 r3 : Int) (w : World) (h : turnoutref01_Mask.f a0 a1 = some (r1, r2, r3)) :
    Calls Tryd.prog 26 #[.int .i64 a0, .int .i64 a1] w fun e w' => e = .returned (.tuple #[.agg #[.int .u64 r1, .int .u64 r2], .int .i64 r3]) ∧ Below w.heap.size w w' := by
  have hu24 := Tryd.underlying24
  unfold turnoutref01_Mask.f at h
  by_cases hw : 1 ≤ a0 ∧ a0 ≤ 128
  · rw [if_pos hw] at h
    have A := Aside0.mk (width_yes hw)
    by_cases hn : 0 ≤ a1 ∧ a1 ≤ a0
    · rw [if_pos hn] at h
      obtain ⟨m, rfl⟩ : ∃ n : Nat, a0 = n := ⟨a0.toNat, by omega⟩
      obtain ⟨n, rfl⟩ : ∃ n : Nat, a1 = n := ⟨a1.toNat, by omega⟩
      rw [Int.toNat_natCast, Int.toNat_natCast] at h
      simp only [Option.some.injEq, Prod.mk.injEq] at h
      obtain ⟨h1, h2, rfl⟩ := h
      have R := Aside0.mk (And.intro h1 h2)
      have hm1 : 1 ≤ m := by omega
      have hm2 : m ≤ 128 := by omega
      have hnm : n ≤ m := by omega
      have t1 : decide ((n : Int) < 0) = false := decide_eq_false (by omega)
      have t2 : decide ((m : Int) < (n : Int)) = false := decide_eq_false (by omega)
      have t3 : decide (m < n) = false := decide_eq_false (by omega)
      clear h1 h2 hw hn
      go_enter Tryd.func26, Tryd.ntmps26
      go_wp2_with fail
      refine (turnoutref01_Width.calls _ true _ A.out).mono ?_
      rintro e w1 ⟨rfl, ⟨nd, rfl⟩⟩
      go_wp2_with fail
      go_loopw [7] (fun i wr => ∃ k : Nat, k ≤ n ∧ i = .int .i64 k ∧ MaskRel w m k wr) (fun i _ => n - (intOf i).toNat)
      case atStart =>
        refine ⟨0, by omega, rfl, blk_alloc (blk_drewN (blk_new _ _) _) _, ?_, below_alloc (pw_below_drewN (below_alloc (Below.refl w.heap.size w) _) _) _⟩
        rw [maskL_zero, ← zero69]
        exact blk_at (by show w.heap.size + 1 = (World.alloc _ _).heap.size; rw [World.size_alloc])
      case round =>
        obtain ⟨k, hk, rfl, b4, b6, hb⟩ := hrel
        by_cases hlt : k < n
        · have hcz : wr.cell? ⟨w.heap.size + 1, 128 - m + k, none⟩ = some (.bool ((maskL m k).getD (128 - m + k) false)) := (blk_cell b6 _).trans (bcells_get _ _ (by rw [maskL_length]; omega))
          have hfz := blk_frozen b6 (128 - m + k)
          have b7 := blk_set b6 (128 - m + k) (.bool true)
          rw [bcells_set, maskL_step _ _ (by omega)] at b7
          have B4 := Aside0.mk (blk_far b4 (p := ⟨w.heap.size + 1, 128 - m + k, none⟩) (by simp only []; omega) (.bool true))
          have B7 := Aside0.mk b7
          have HB := Aside0.mk hb
          clear b4 b6 b7 hb
          go_wp2
          go_roundw
          case rel => exact ⟨k + 1, by omega, by go_num, B4.out, B7.out, below_set HB.out (by omega)⟩
          case measure => simp [intOf]; omega
        · obtain rfl : n = k := by omega
          have B4 := Aside0.mk b4
          have HB := Aside0.mk hb
          clear b4 hb
          go_wp2_with (first | refine wpList_load_row rfl 69 _ rfl _ rfl 69 _ _ _ b6 Tryd.underlying69 rfl (size69 _ (maskL_length _ _)) ?_)
          refine (take_callsR _ (maskL_length _ _) r1 r2 R.out _).mono ?_
          rintro e w2 ⟨rfl, hb2⟩
          have b42 := blk_below B4.out hb2
          have hcz0 : w2.cell? ⟨w.heap.size, 0, none⟩ = some (.int .u64 0) := (blk_cell b42 0).trans rfl
          have hcz1 : w2.cell? ⟨w.heap.size, 1, none⟩ = some (.int .u64 0) := (blk_cell b42 1).trans rfl
          have hfz0 := blk_frozen b42 0
          have hfz1 := blk_frozen b42 1
          have B42 := Aside0.mk b42
          have HB2 := Aside0.mk (below_step HB.out hb2)
          clear b42 hb2 b6
          go_wp2
          refine bodyPost_ret (results_ct rfl _ _ w.heap.size 24 #[.int .u64 r1, .int .u64 r2] (0, 0) _ rfl (blk_put (cs := #[_, _]) (blk_put (cs := #[_, _]) B42.out 0 _ rfl) 1 _ rfl) Tryd.underlying24 rfl (by kernel_rfl)) rfl ?_
          exact ⟨rfl, below_set (below_set HB2.out (by simp)) (by simp)⟩
    · rw [if_neg hn] at h
      simp only [Option.some.injEq, Prod.mk.injEq] at h
      obtain ⟨rfl, rfl, rfl⟩ := h
      by_cases hneg : a1 < 0
      · have t1 : decide (a1 < 0) = true := decide_eq_true hneg
        clear hw hn hneg
        go_enter Tryd.func26, Tryd.ntmps26
        go_wp2_with fail
        refine (turnoutref01_Width.calls _ true _ A.out).mono ?_
        rintro e w1 ⟨rfl, ⟨nd, rfl⟩⟩
        go_wp2
        refine bodyPost_ret (results_ct rfl _ _ w.heap.size 24 #[.int .u64 0, .int .u64 0] (0, 0) _ rfl (blk_put (cs := #[_, _]) (blk_put (cs := #[_, _]) (blk_drewN (blk_new _ _) _) 0 _ rfl) 1 _ rfl) Tryd.underlying24 rfl (by kernel_rfl)) rfl ?_
        exact ⟨rfl, below_set (below_set (pw_below_drewN (below_alloc (Below.refl w.heap.size w) _) _) (by simp)) (by simp)⟩
      · have t1 : decide (a1 < 0) = false := decide_eq_false hneg
        have t2 : decide (a0 < a1) = true := decide_eq_true (by omega)
        clear hw hn hneg
        go_enter Tryd.func26, Tryd.ntmps26
        go_wp2_with fail
        refine (turnoutref01_Width.calls _ true _ A.out).mono ?_
        rintro e w1 ⟨rfl, ⟨nd, rfl⟩⟩
        go_wp2
        refine bodyPost_ret (results_ct rfl _ _ w.heap.size 24 #[.int .u64 0, .int .u64 0] (0, 0) _ rfl (blk_put (cs := #[_, _]) (blk_put (cs := #[_, _]) (blk_drewN (blk_new _ _) _) 0 _ rfl) 1 _ rfl) Tryd.underlying24 rfl (by kernel_rfl)) rfl ?_
        exact ⟨rfl, below_set (below_set (pw_below_drewN (below_alloc (Below.refl w.heap.size w) _) _) (by simp)) (by simp)⟩
  · rw [if_neg hw] at h
    simp only [Option.some.injEq, Prod.mk.injEq] at h
    obtain ⟨rfl, rfl, rfl⟩ := h
    have A := Aside0.mk (width_no hw)
    clear hw
    go_enter Tryd.func26, Tryd.ntmps26
    go_wp2_with fail
    refine (turnoutref01_Width.calls _ false _ A.out).mono ?_
    rintro e w1 ⟨rfl, ⟨nd, rfl⟩⟩
    go_wp2
    refine bodyPost_ret (results_ct rfl _ _ w.heap.size 24 #[.int .u64 0, .int .u64 0] (0, 0) _ rfl (blk_put (cs := #[_, _]) (blk_put (cs := #[_, _]) (blk_drewN (blk_new _ _) _) 0 _ rfl) 1 _ rfl) Tryd.underlying24 rfl (by kernel_rfl)) rfl ?_
    exact ⟨rfl, below_set (below_set (pw_below_drewN (below_alloc (Below.refl w.heap.size w) _) _) (by simp)) (by simp)⟩
end Go.Proofs.YtofnhgpiipmegaaDoor.PV
namespace Go.Proofs.YtofnhgpiipmegaaDoor.PV
open Go.RowKit Go.Proofs.YtofnhgpiipmegaaDoorW.PrintWords Go.Proofs.YtofnhgpiipmegaaDoorW.PrintLast Go.Proofs.YtofnhgpiipmegaaDoorW.PrintMore
set_option linter.unusedVariables false
set_option linter.unusedSimpArgs false
def turnoutref01_Bit.f (a0_0 a0_1 a1 a2 : Int) : Option Bool :=
  if 1 ≤ a1 ∧ a1 ≤ 128 then (if 0 ≤ a2 ∧ a2 < a1 then some ((layL a0_0 a0_1).getD (128 - a1.toNat + a2.toNat) false) else some false) else some false
set_option maxHeartbeats 8000000 in
set_option maxRecDepth 100000 in
theorem turnoutref01_Bit.calls (a0_0 a0_1 a1 a2 : Int) (r : Bool) (w : World) (h : turnoutref01_Bit.f a0_0 a0_1 a1 a2 = some r) :
    Calls Tryd.prog 37 #[.agg #[.int .u64 a0_0, .int .u64 a0_1], .int .i64 a1, .int .i64 a2] w fun e w' => e = .returned (.bool r) ∧ Below w.heap.size w w' := by
  have hu24 := Tryd.underlying24
  unfold turnoutref01_Bit.f at h
  have HB := Aside0.mk (below_alloc (Below.refl w.heap.size w) (.cells #[.int .u64 a0_0, .int .u64 a0_1] 24))
  by_cases hw : 1 ≤ a1 ∧ a1 ≤ 128
  · rw [if_pos hw] at h
    have A := Aside0.mk (width_yes hw)
    by_cases hn : 0 ≤ a2 ∧ a2 < a1
    · rw [if_pos hn] at h
      obtain ⟨m, rfl⟩ : ∃ n : Nat, a1 = n := ⟨a1.toNat, by omega⟩
      obtain ⟨n, rfl⟩ : ∃ n : Nat, a2 = n := ⟨a2.toNat, by omega⟩
      rw [Int.toNat_natCast, Int.toNat_natCast] at h
      have R := Aside0.mk (Option.some.inj h)
      have hm1 : 1 ≤ m := by omega
      have hm2 : m ≤ 128 := by omega
      have hnm : n < m := by omega
      have t1 : decide ((n : Int) < 0) = false := decide_eq_false (by omega)
      have t2 : decide ((m : Int) ≤ (n : Int)) = false := decide_eq_false (by omega)
      have t3 : decide (m ≤ n) = false := decide_eq_false (by omega)
      clear h hw hn
      go_enter Tryd.func37, Tryd.ntmps37
      go_wp2_with fail
      refine (turnoutref01_Width.calls _ true _ A.out).mono ?_
      rintro e w1 ⟨rfl, ⟨nd, rfl⟩⟩
      go_wp2_with fail
      refine (lay_calls a0_0 a0_1 _).mono ?_
      rintro e w1 ⟨rfl, hb⟩
      have HB1 := Aside0.mk (below_step (pw_below_drewN HB.out nd) hb)
      have hcz : (w1.alloc (.cells (bcells (layL a0_0 a0_1)) 69 (0, 0))).cell? ⟨w1.heap.size, 128 - m + n, none⟩ = some (.bool r) := by
        rw [blk_cell (blk_new _ _), bcells_get _ _ (by rw [layL_length]; omega), R.out]
      clear hb
      go_wp2_with (refine wpList_store_fresh rfl 69 _ _ rfl rfl rfl _ rfl 69 _ (size69 _ (layL_length _ _)) (same69 _ (layL_length _ _)) (bcells_one _) ?_)
      go_ret
      exact ⟨rfl, below_alloc HB1.out _⟩
    · rw [if_neg hn] at h
      obtain rfl := Option.some.inj h
      by_cases hneg : a2 < 0
      · have t1 : decide (a2 < 0) = true := decide_eq_true hneg
        clear hn hw hneg h
        go_enter Tryd.func37, Tryd.ntmps37
        go_wp2_with fail
        refine (turnoutref01_Width.calls _ true _ A.out).mono ?_
        rintro e w1 ⟨rfl, ⟨nd, rfl⟩⟩
        go_wp2
        go_ret
        exact ⟨rfl, pw_below_drewN HB.out nd⟩
      · have t1 : decide (a2 < 0) = false := decide_eq_false hneg
        have t2 : decide (a1 ≤ a2) = true := decide_eq_true (by omega)
        clear hn hw hneg h
        go_enter Tryd.func37, Tryd.ntmps37
        go_wp2_with fail
        refine (turnoutref01_Width.calls _ true _ A.out).mono ?_
        rintro e w1 ⟨rfl, ⟨nd, rfl⟩⟩
        go_wp2
        go_ret
        exact ⟨rfl, pw_below_drewN HB.out nd⟩
  · rw [if_neg hw] at h
    obtain rfl := Option.some.inj h
    have A := Aside0.mk (width_no hw)
    clear hw h
    go_enter Tryd.func37, Tryd.ntmps37
    go_wp2_with fail
    refine (turnoutref01_Width.calls _ false _ A.out).mono ?_
    rintro e w1 ⟨rfl, ⟨nd, rfl⟩⟩
    go_wp2
    go_ret
    exact ⟨rfl, pw_below_drewN HB.out nd⟩
/-- The carry behind k rounds, from the lowest bit on; the bits of the sum so far. -/
def cyR (x y : List Bool) : Nat → Bool
  | 0 => false
  | k + 1 => (x.getD (127 - k) false && y.getD (127 - k) false) || (x.getD (127 - k) false && cyR x y k) || (y.getD (127 - k) false && cyR x y k)
def smR (x y : List Bool) : Nat → List Bool
  | 0 => List.replicate 128 false
  | k + 1 => (smR x y k).set (127 - k) ((x.getD (127 - k) false != y.getD (127 - k) false) != cyR x y k)
theorem smR_length (x y : List Bool) (k : Nat) : (smR x y k).length = 128 := by
  induction k with
  | zero => simp [smR]
  | succ k ih => simp [smR, ih]
def turnoutref01_Add.f (a0_0 a0_1 a1_0 a1_1 a2 : Int) : Option (Int × Int) :=
  turnoutref01_Cut.f (takeHi (smR (layL a0_0 a0_1) (layL a1_0 a1_1) 128)) (takeLo (smR (layL a0_0 a0_1) (layL a1_0 a1_1) 128)) a2
def AddRel (w : World) (x y : List Bool) (k g7 g8 g9 : Nat) (wr : World) : Prop :=
  wr.heap[w.heap.size + 1 + 1]? = some (.cells #[.int .u64 0, .int .u64 0] 24 (0, 0)) ∧ wr.heap[g7]? = some (.cells (bcells x) 69 (0, 0)) ∧ wr.heap[g8]? = some (.cells (bcells y) 69 (0, 0)) ∧ wr.heap[g9]? = some (.cells (bcells (smR x y k)) 69 (0, 0)) ∧ Below w.heap.size w wr
theorem heap_alloc3_new (w : World) (A B C : Obj) : (((w.alloc A).alloc B).alloc C).heap[w.heap.size + 1 + 1]? = some C := by
  have h := heap_alloc2_new (w.alloc A) B C
  rwa [World.size_alloc] at h
set_option maxHeartbeats 8000000 in
set_option maxRecDepth 100000 in
theorem turnoutref01_Add.calls (a0_0 a0_1 a1_0 a1_1 a2 r1 r2 : Int) (w : World) (h : turnoutref01_Add.f a0_0 a0_1 a1_0 a1_1 a2 = some (r1, r2)) :
    Calls Tryd.prog 35 #[.agg #[.int .u64 a0_0, .int .u64 a0_1], .agg #[.int .u64 a1_0, .int .u64 a1_1], .int .i64 a2] w fun e w' => e = .returned (.agg #[.int .u64 r1, .int .u64 r2]) ∧ Below w.heap.size w w' := by
  have hu24 := Tryd.underlying24
  unfold turnoutref01_Add.f at h
  obtain ⟨X, hX⟩ : ∃ X, layL a0_0 a0_1 = X := ⟨_, rfl⟩
  obtain ⟨Y, hY⟩ : ∃ Y, layL a1_0 a1_1 = Y := ⟨_, rfl⟩
  have lx : X.length = 128 := by rw [← hX, layL_length]
  have ly : Y.length = 128 := by rw [← hY, layL_length]
  rw [hX, hY] at h
  have A := Aside0.mk h
  have C7 := Aside0.mk (fun w => lay_calls a0_0 a0_1 w)
  have C8 := Aside0.mk (fun w => lay_calls a1_0 a1_1 w)
  rw [hX] at C7
  rw [hY] at C8
  have LX := Aside0.mk lx
  have LY := Aside0.mk ly
  clear h hX hY lx ly
  go_enter Tryd.func35, Tryd.ntmps35
  go_wp2_with fail
  refine (C7.out _).mono ?_
  rintro e w1 ⟨rfl, hb⟩
  have b6 := blk_below (heap_alloc3_new w _ _ _) hb
  have HB1 := Aside0.mk (below_step (below_alloc (below_alloc (below_alloc (Below.refl w.heap.size w) _) _) _) hb)
  have hb4 : w1.cell? ⟨w.heap.size + 1, 0, none⟩ = some (.int .u64 a1_0) := by
    rw [hb.cell (p := ⟨w.heap.size + 1, 0, none⟩) (by simp only [World.size_alloc]; omega)]
    exact (blk_cell (blk_alloc (heap_alloc2_new w _ _) _) 0).trans rfl
  have hb5 : w1.cell? ⟨w.heap.size + 1, 1, none⟩ = some (.int .u64 a1_1) := by
    rw [hb.cell (p := ⟨w.heap.size + 1, 1, none⟩) (by simp only [World.size_alloc]; omega)]
    exact (blk_cell (blk_alloc (heap_alloc2_new w _ _) _) 1).trans rfl
  have hs7 := Aside0.mk (blk_lt b6)
  have hlt1 : w.heap.size + 1 < w1.heap.size := by have := hs7.out; omega
  have B6 := Aside0.mk b6
  clear hb b6
  go_wp2_with (first | refine wpList_store_fresh rfl 69 _ _ rfl rfl rfl _ rfl 69 _ (size69 _ LX.out) (same69 _ LX.out) (bcells_one _) ?_)
  refine (C8.out _).mono ?_
  rintro e w2 ⟨rfl, hb⟩
  have b6 := blk_below (blk_alloc B6.out _) hb
  have b7 := blk_below (blk_new w1 _) hb
  have HB2 := Aside0.mk (below_step (below_alloc HB1.out _) hb)
  have hs8 := Aside0.mk (blk_lt b7)
  have B6 := Aside0.mk b6
  have B7 := Aside0.mk b7
  clear hb b6 b7 hb4 hb5 HB1
  go_wp2_with (first | refine wpList_store_fresh rfl 69 _ _ rfl rfl rfl _ rfl 69 _ (size69 _ LY.out) (same69 _ LY.out) (bcells_one _) ?_)
  go_loopw [10, 11] (fun c i wr => ∃ k : Nat, k ≤ 128 ∧ i = .int .i64 (127 - k) ∧ c = .bool (cyR X Y k) ∧ AddRel w X Y k w1.heap.size w2.heap.size (w2.heap.size + 1) wr) (fun _ i _ => (intOf i + 1).toNat)
  case atStart =>
    refine ⟨0, by omega, rfl, rfl, blk_alloc (blk_alloc B6.out _) _, blk_alloc (blk_alloc B7.out _) _, blk_alloc (blk_new _ _) _, ?_, below_alloc (below_alloc HB2.out _) _⟩
    have e : smR X Y 0 = List.replicate 128 false := rfl
    rw [e, ← zero69]; exact heap_alloc2_new _ _ _
  case round =>
      obtain ⟨k, hk, rfl, rfl, b6, b7, b8, b9, hb⟩ := hrel
      by_cases hlt : k < 128
      · have hge : (0 : Int) ≤ 127 - (k : Int) := by omega
        have hz7 : wr.cell? ⟨w1.heap.size, 127 - k, none⟩ = some (.bool (X.getD (127 - k) false)) := (blk_cell b7 _).trans (bcells_get _ _ (by have := LX.out; omega))
        have hz8 : wr.cell? ⟨w2.heap.size, 127 - k, none⟩ = some (.bool (Y.getD (127 - k) false)) := (blk_cell b8 _).trans (bcells_get _ _ (by have := LY.out; omega))
        have hz9 : wr.cell? ⟨w2.heap.size + 1, 127 - k, none⟩ = some (.bool ((smR X Y k).getD (127 - k) false)) := (blk_cell b9 _).trans (bcells_get _ _ (by rw [smR_length]; omega))
        have hf9 := blk_frozen b9 (127 - k)
        have b10 := fun b => blk_set b9 (127 - k) (.bool b)
        have B6 := Aside0.mk (fun b => blk_far b6 (p := ⟨w2.heap.size + 1, 127 - k, none⟩) (by have := hs7.out; have := hs8.out; simp only []; omega) (.bool b))
        have B7 := Aside0.mk (fun b => blk_far b7 (p := ⟨w2.heap.size + 1, 127 - k, none⟩) (by have := hs7.out; have := hs8.out; simp only []; omega) (.bool b))
        have B8 := Aside0.mk (fun b => blk_far b8 (p := ⟨w2.heap.size + 1, 127 - k, none⟩) (by have := hs7.out; have := hs8.out; simp only []; omega) (.bool b))
        have B9 := Aside0.mk b10
        have HB := Aside0.mk hb
        clear b6 b7 b8 b9 b10 hb
        cases h1 : X.getD (127 - k) false
        all_goals cases h2 : Y.getD (127 - k) false
        all_goals cases h3 : cyR X Y k
        all_goals
          rw [h1] at hz7
          rw [h2] at hz8
          have H1 := Aside0.mk h1
          have H2 := Aside0.mk h2
          have H3 := Aside0.mk h3
          clear h1 h2 h3
          go_wp2
          go_roundw
          case rel =>
            refine ⟨k + 1, by omega, ?_, ?_, B6.out _, B7.out _, B8.out _, ?_, below_set HB.out (by have := hs7.out; have := hs8.out; omega)⟩
            · congr 1; omega
            · simp only [cyR, H1.out, H2.out, H3.out]; rfl
            · have z := B9.out ((X.getD (127 - k) false != Y.getD (127 - k) false) != cyR X Y k)
              rw [bcells_set] at z
              simp only [H1.out, H2.out, H3.out] at z
              simp only [smR, H1.out, H2.out, H3.out]
              exact z
          case measure => simp [intOf]; omega
      · have hge : ¬ (0 : Int) ≤ 127 - (k : Int) := by omega
        obtain rfl : 128 = k := by omega
        have B6 := Aside0.mk b6
        have HB := Aside0.mk hb
        clear b6 b7 b8 hb
        have l9 := smR_length X Y 128
        have C9 := Aside0.mk (fun w => take_callsR (smR X Y 128) l9 _ _ ⟨rfl, rfl⟩ w)
        have S9 := Aside0.mk (size69 _ l9)
        obtain ⟨t1, ht1⟩ : ∃ t, takeHi (smR X Y 128) = t := ⟨_, rfl⟩
        obtain ⟨t2, ht2⟩ : ∃ t, takeLo (smR X Y 128) = t := ⟨_, rfl⟩
        rw [ht1, ht2] at C9 A
        clear ht1 ht2 l9
        go_wp2_with (first | refine wpList_load_row rfl 69 _ rfl _ rfl 69 _ _ _ b9 Tryd.underlying69 rfl S9.out ?_)
        refine (C9.out _).mono ?_
        rintro e w3 ⟨rfl, hb3⟩
        have B63 := Aside0.mk (blk_below B6.out hb3)
        have HB3 := Aside0.mk (below_step HB.out hb3)
        clear hb3 b9
        go_wp2_with fail
        refine (turnoutref01_Cut.calls t1 t2 a2 r1 r2 _ A.out).mono ?_
        rintro e w4 ⟨rfl, hb4⟩
        have b64 := blk_below B63.out hb4
        have hcz0 : w4.cell? ⟨w.heap.size + 1 + 1, 0, none⟩ = some (.int .u64 0) := (blk_cell b64 0).trans rfl
        have hcz1 : w4.cell? ⟨w.heap.size + 1 + 1, 1, none⟩ = some (.int .u64 0) := (blk_cell b64 1).trans rfl
        have hfz0 := blk_frozen b64 0
        have hfz1 := blk_frozen b64 1
        have B64 := Aside0.mk b64
        have HB4 := Aside0.mk (below_step HB3.out hb4)
        clear b64 hb4
        go_wp2
        refine bodyPost_ret (results_cell_row rfl _ _ (w.heap.size + 1 + 1) 24 #[.int .u64 r1, .int .u64 r2] (0, 0) _ rfl (blk_put (cs := #[_, _]) (blk_put (cs := #[_, _]) B64.out 0 _ rfl) 1 _ rfl) Tryd.underlying24 rfl (by kernel_rfl)) rfl ?_
        exact ⟨rfl, below_set (below_set HB4.out (by omega)) (by omega)⟩
end Go.Proofs.YtofnhgpiipmegaaDoor.PV
namespace Go.Proofs.YtofnhgpiipmegaaDoor.PV
open Go.RowKit Go.Proofs.YtofnhgpiipmegaaDoorW.PrintWords Go.Proofs.YtofnhgpiipmegaaDoorW.PrintLast Go.Proofs.YtofnhgpiipmegaaDoorW.PrintMore
set_option linter.unusedVariables false
set_option linter.unusedSimpArgs false
def notR (l : List Bool) (k : Nat) : List Bool := (l.take k).map (fun b => !b) ++ l.drop k
theorem notR_length (l : List Bool) (k : Nat) (h : k ≤ l.length) : (notR l k).length = l.length := by simp [notR]; omega
theorem notR_zero (l : List Bool) : notR l 0 = l := by simp [notR]
theorem notR_get (l : List Bool) (k : Nat) (h : k < l.length) : (notR l k).getD k false = l.getD k false := by
  have h2 : k < (notR l k).length := by rw [notR_length l k (by omega)]; exact h
  simp only [List.getD, List.getElem?_eq_getElem h2, List.getElem?_eq_getElem h, Option.getD_some]
  simp only [notR, List.getElem_append, List.length_map, List.length_take]
  rw [dif_neg (by omega), List.getElem_drop]; congr 1; omega
theorem notR_step (l : List Bool) (k : Nat) (h : k < l.length) : (notR l k).set k (!(l.getD k false)) = notR l (k + 1) := by
  apply List.ext_getElem
  · rw [List.length_set, notR_length l k (by omega), notR_length l (k + 1) (by omega)]
  intro j h1 h2
  have hj : j < l.length := by rw [notR_length l (k + 1) (by omega)] at h2; exact h2
  simp only [notR, List.getElem_set, List.getElem_append, List.length_map, List.length_take, List.getElem_map, List.getElem_take, List.getElem_drop]
  by_cases h3 : k = j
  · subst h3; simp [List.getD, h]; intro h9; exfalso; omega
  · rw [if_neg h3]
    by_cases h4 : j < k
    · rw [dif_pos (by omega), dif_pos (by omega)]
    · rw [dif_neg (by omega), dif_neg (by omega)]; congr 1; omega
def turnoutref01_Sub.f (a0_0 a0_1 a1_0 a1_1 a2 : Int) : Option (Int × Int) :=
  (turnoutref01_Add.f (takeHi (notR (layL a1_0 a1_1) 128)) (takeLo (notR (layL a1_0 a1_1) 128)) 0 1 128).bind fun n => turnoutref01_Add.f a0_0 a0_1 n.1 n.2 a2
def SubRel (w : World) (a0_0 a0_1 : Int) (y : List Bool) (k g7 : Nat) (wr : World) : Prop :=
  wr.heap[w.heap.size]? = some (.cells #[.int .u64 a0_0, .int .u64 a0_1] 24 (0, 0)) ∧ wr.heap[w.heap.size + 1 + 1]? = some (.cells #[.int .u64 0, .int .u64 0] 24 (0, 0)) ∧ wr.heap[g7]? = some (.cells (bcells (notR y k)) 69 (0, 0)) ∧ Below w.heap.size w wr
set_option maxHeartbeats 8000000 in
set_option maxRecDepth 100000 in
theorem turnoutref01_Sub.calls (a0_0 a0_1 a1_0 a1_1 a2 r1 r2 : Int) (w : World) (h : turnoutref01_Sub.f a0_0 a0_1 a1_0 a1_1 a2 = some (r1, r2)) :
    Calls Tryd.prog 36 #[.agg #[.int .u64 a0_0, .int .u64 a0_1], .agg #[.int .u64 a1_0, .int .u64 a1_1], .int .i64 a2] w fun e w' => e = .returned (.agg #[.int .u64 r1, .int .u64 r2]) ∧ Below w.heap.size w w' := by
  have hu24 := Tryd.underlying24
  unfold turnoutref01_Sub.f at h
  obtain ⟨Y, hY⟩ : ∃ Y, layL a1_0 a1_1 = Y := ⟨_, rfl⟩
  have ly : Y.length = 128 := by rw [← hY, layL_length]
  rw [hY] at h
  have C8 := Aside0.mk (fun w => lay_calls a1_0 a1_1 w)
  rw [hY] at C8
  have l9 : (notR Y 128).length = 128 := by rw [notR_length _ _ (by omega), ly]
  have C9 := Aside0.mk (fun w => take_callsR (notR Y 128) l9 _ _ ⟨rfl, rfl⟩ w)
  have S9 := Aside0.mk (size69 _ l9)
  obtain ⟨t1, ht1⟩ : ∃ t, takeHi (notR Y 128) = t := ⟨_, rfl⟩
  obtain ⟨t2, ht2⟩ : ∃ t, takeLo (notR Y 128) = t := ⟨_, rfl⟩
  rw [ht1, ht2] at C9 h
  obtain ⟨⟨n1, n2⟩, h1, h2⟩ := Option.bind_eq_some_iff.mp h
  have A1 := Aside0.mk h1
  have A2 := Aside0.mk h2
  have LY := Aside0.mk ly
  clear h hY ly l9 ht1 ht2 h1 h2
  go_enter Tryd.func36, Tryd.ntmps36
  go_wp2_with fail
  refine (C8.out _).mono ?_
  rintro e w1 ⟨rfl, hb⟩
  have HB1 := Aside0.mk (below_step (below_alloc (below_alloc (below_alloc (Below.refl w.heap.size w) _) _) _) hb)
  have B6 := Aside0.mk (blk_below (heap_alloc3_new w _ _ _) hb)
  have B3 := Aside0.mk (blk_below (blk_alloc (blk_alloc (blk_new w _) _) _) hb)
  have hs7 := Aside0.mk (blk_lt B6.out)
  clear hb
  go_wp2_with (first | refine wpList_store_fresh rfl 69 _ _ rfl rfl rfl _ rfl 69 _ (size69 _ LY.out) (same69 _ LY.out) (bcells_one _) ?_)
  go_loopw [8] (fun i wr => ∃ k : Nat, k ≤ 128 ∧ i = .int .i64 k ∧ SubRel w a0_0 a0_1 Y k w1.heap.size wr) (fun i _ => 128 - (intOf i).toNat)
  case atStart =>
    refine ⟨0, by omega, rfl, blk_alloc B3.out _, blk_alloc B6.out _, ?_, below_alloc HB1.out _⟩
    rw [notR_zero]; exact blk_new _ _
  case round =>
    obtain ⟨k, hk, rfl, b3, b6, b7, hb⟩ := hrel
    by_cases hlt : k < 128
    · have hz7 : wr.cell? ⟨w1.heap.size, k, none⟩ = some (.bool (Y.getD k false)) := by
        rw [blk_cell b7 k, bcells_get _ _ (by have := LY.out; rw [notR_length _ _ (by omega)]; omega), notR_get _ _ (by have := LY.out; omega)]
      have hf7 := blk_frozen b7 k
      have b10 := blk_set b7 k (.bool (!(Y.getD k false)))
      rw [bcells_set, notR_step _ _ (by have := LY.out; omega)] at b10
      have B3' := Aside0.mk (blk_far b3 (p := ⟨w1.heap.size, k, none⟩) (by have := hs7.out; simp only []; omega) (.bool (!(Y.getD k false))))
      have B6' := Aside0.mk (blk_far b6 (p := ⟨w1.heap.size, k, none⟩) (by have := hs7.out; simp only []; omega) (.bool (!(Y.getD k false))))
      have B10 := Aside0.mk b10
      have HB := Aside0.mk hb
      clear b3 b6 b7 b10 hb
      generalize Y.getD k false = yb at *
      go_wp2
      go_roundw
      case rel => exact ⟨k + 1, by omega, by go_num, B3'.out, B6'.out, B10.out, below_set HB.out (by have := hs7.out; omega)⟩
      case measure => simp [intOf]; omega
    · obtain rfl : 128 = k := by omega
      have B3' := Aside0.mk b3
      have B6' := Aside0.mk b6
      have HB := Aside0.mk hb
      clear b3 b6 hb
      go_wp2_with (first | refine wpList_load_row rfl 69 _ rfl _ rfl 69 _ _ _ b7 Tryd.underlying69 rfl S9.out ?_)
      refine (C9.out _).mono ?_
      rintro e w3 ⟨rfl, hb3⟩
      have B33 := Aside0.mk (blk_below B3'.out hb3)
      have B63 := Aside0.mk (blk_below B6'.out hb3)
      have HB3 := Aside0.mk (below_step HB.out hb3)
      clear hb3 b7
      go_wp2_with fail
      refine (turnoutref01_Add.calls t1 t2 0 1 128 n1 n2 _ A1.out).mono ?_
      rintro e w4 ⟨rfl, hb4⟩
      have b34 := blk_below B33.out hb4
      have hz0 : w4.cell? ⟨w.heap.size, 0, none⟩ = some (.int .u64 a0_0) := (blk_cell b34 0).trans rfl
      have hz1 : w4.cell? ⟨w.heap.size, 1, none⟩ = some (.int .u64 a0_1) := (blk_cell b34 1).trans rfl
      have hsz : w.heap.size < w4.heap.size := blk_lt b34
      have B64 := Aside0.mk (blk_below B63.out hb4)
      have HB4 := Aside0.mk (below_step HB3.out hb4)
      clear b34 hb4
      go_wp2_with fail
      refine (turnoutref01_Add.calls a0_0 a0_1 n1 n2 a2 r1 r2 _ A2.out).mono ?_
      rintro e w5 ⟨rfl, hb5⟩
      have b65 := blk_below (blk_alloc B64.out _) hb5
      have hcz0 : w5.cell? ⟨w.heap.size + 1 + 1, 0, none⟩ = some (.int .u64 0) := (blk_cell b65 0).trans rfl
      have hcz1 : w5.cell? ⟨w.heap.size + 1 + 1, 1, none⟩ = some (.int .u64 0) := (blk_cell b65 1).trans rfl
      have hfz0 := blk_frozen b65 0
      have hfz1 := blk_frozen b65 1
      have B65 := Aside0.mk b65
      have HB5 := Aside0.mk (below_step (below_alloc HB4.out _) hb5)
      clear b65 hb5
      go_wp2
      refine bodyPost_ret (results_cell_row rfl _ _ (w.heap.size + 1 + 1) 24 #[.int .u64 r1, .int .u64 r2] (0, 0) _ rfl (blk_put (cs := #[_, _]) (blk_put (cs := #[_, _]) B65.out 0 _ rfl) 1 _ rfl) Tryd.underlying24 rfl (by kernel_rfl)) rfl ?_
      exact ⟨rfl, below_set (below_set HB5.out (by omega)) (by omega)⟩
def cmpL : List Bool → List Bool → Int
  | a :: x, b :: y => if a = b then cmpL x y else if b = true then -1 else 1
  | _, _ => 0
theorem drop_consB (l : List Bool) (k : Nat) (h : k < l.length) : l.drop k = l.getD k false :: l.drop (k + 1) := by
  rw [List.drop_eq_getElem_cons h]; simp [List.getD, h]
def turnoutref01_Compare.f (a0_0 a0_1 a1_0 a1_1 : Int) : Option Int := some (cmpL (layL a0_0 a0_1) (layL a1_0 a1_1))
def CmpRel (w : World) (x y : List Bool) (k : Nat) (r : Int) (g5 g6 : Nat) (wr : World) : Prop :=
  wr.heap[g5]? = some (.cells (bcells x) 69 (0, 0)) ∧ wr.heap[g6]? = some (.cells (bcells y) 69 (0, 0)) ∧ cmpL (x.drop k) (y.drop k) = r ∧ Below w.heap.size w wr
set_option maxHeartbeats 8000000 in
set_option maxRecDepth 100000 in
theorem turnoutref01_Compare.calls (a0_0 a0_1 a1_0 a1_1 r : Int) (w : World) (h : turnoutref01_Compare.f a0_0 a0_1 a1_0 a1_1 = some r) :
    Calls Tryd.prog 30 #[.agg #[.int .u64 a0_0, .int .u64 a0_1], .agg #[.int .u64 a1_0, .int .u64 a1_1]] w fun e w' => e = .returned (.int .i64 r) ∧ Below w.heap.size w w' := by
  have hu24 := Tryd.underlying24
  unfold turnoutref01_Compare.f at h
  obtain ⟨X, hX⟩ : ∃ X, layL a0_0 a0_1 = X := ⟨_, rfl⟩
  obtain ⟨Y, hY⟩ : ∃ Y, layL a1_0 a1_1 = Y := ⟨_, rfl⟩
  have lx : X.length = 128 := by rw [← hX, layL_length]
  have ly : Y.length = 128 := by rw [← hY, layL_length]
  rw [hX, hY] at h
  have R := Aside0.mk (Option.some.inj h)
  have C7 := Aside0.mk (fun w => lay_calls a0_0 a0_1 w)
  have C8 := Aside0.mk (fun w => lay_calls a1_0 a1_1 w)
  rw [hX] at C7
  rw [hY] at C8
  have LX := Aside0.mk lx
  have LY := Aside0.mk ly
  clear h hX hY lx ly
  go_enter Tryd.func30, Tryd.ntmps30
  go_wp2_with fail
  refine (C7.out _).mono ?_
  rintro e w1 ⟨rfl, hb⟩
  have HB1 := Aside0.mk (below_step (below_alloc (below_alloc (Below.refl w.heap.size w) _) _) hb)
  have hb4 : w1.cell? ⟨w.heap.size + 1, 0, none⟩ = some (.int .u64 a1_0) := by
    rw [hb.cell (p := ⟨w.heap.size + 1, 0, none⟩) (by simp only [World.size_alloc]; omega)]
    exact (blk_cell (heap_alloc2_new w _ _) 0).trans rfl
  have hb5 : w1.cell? ⟨w.heap.size + 1, 1, none⟩ = some (.int .u64 a1_1) := by
    rw [hb.cell (p := ⟨w.heap.size + 1, 1, none⟩) (by simp only [World.size_alloc]; omega)]
    exact (blk_cell (heap_alloc2_new w _ _) 1).trans rfl
  have hlt1 : w.heap.size + 1 < w1.heap.size := by have := hb.size; simp only [World.size_alloc] at this; omega
  clear hb
  go_wp2_with (first | refine wpList_store_fresh rfl 69 _ _ rfl rfl rfl _ rfl 69 _ (size69 _ LX.out) (same69 _ LX.out) (bcells_one _) ?_)
  refine (C8.out _).mono ?_
  rintro e w2 ⟨rfl, hb⟩
  have B7 := Aside0.mk (blk_below (blk_new w1 _) hb)
  have HB2 := Aside0.mk (below_step (below_alloc HB1.out _) hb)
  have hs8 := Aside0.mk (blk_lt B7.out)
  clear hb hb4 hb5 HB1
  go_wp2_with (first | refine wpList_store_fresh rfl 69 _ _ rfl rfl rfl _ rfl 69 _ (size69 _ LY.out) (same69 _ LY.out) (bcells_one _) ?_)
  go_loopw [7] (fun i wr => ∃ k : Nat, k ≤ 128 ∧ i = .int .i64 k ∧ CmpRel w X Y k r w1.heap.size w2.heap.size wr) (fun i _ => 128 - (intOf i).toNat)
  case atStart => exact ⟨0, by omega, rfl, blk_alloc B7.out _, blk_new _ _, R.out, below_alloc HB2.out _⟩
  case round =>
    obtain ⟨k, hk, rfl, b5, b6, hr, hb⟩ := hrel
    by_cases hlt : k < 128
    · have hz5 : wr.cell? ⟨w1.heap.size, k, none⟩ = some (.bool (X.getD k false)) := (blk_cell b5 _).trans (bcells_get _ _ (by have := LX.out; omega))
      have hz6 : wr.cell? ⟨w2.heap.size, k, none⟩ = some (.bool (Y.getD k false)) := (blk_cell b6 _).trans (bcells_get _ _ (by have := LY.out; omega))
      rw [drop_consB X k (by have := LX.out; omega), drop_consB Y k (by have := LY.out; omega), cmpL] at hr
      have B5 := Aside0.mk b5
      have B6 := Aside0.mk b6
      have HB := Aside0.mk hb
      have hlt1' : (k : Int) < 128 := by omega
      clear b5 b6 hb
      cases h1 : X.getD k false
      all_goals cases h2 : Y.getD k false
      all_goals
        rw [h1] at hz5 hr
        rw [h2] at hz6 hr
        clear h1 h2
        first
        | (rw [if_neg (by decide), if_pos rfl] at hr; obtain rfl := hr)
        | (rw [if_neg (by decide), if_neg (by decide)] at hr; obtain rfl := hr)
        | (rw [if_pos rfl] at hr; have HR := Aside0.mk hr; clear hr)
      all_goals
        go_wp2_with fail
        go_quiet (fail)
        go_wp2
        first
        | (go_ret; exact ⟨rfl, pw_below_drewN HB.out _⟩)
        | (go_roundw
           case rel => exact ⟨k + 1, by omega, by go_num, B5.out, B6.out, HR.out, pw_below_drewN HB.out _⟩
           case measure => simp [intOf]; omega)
    · obtain rfl : 128 = k := by omega
      rw [List.drop_eq_nil_of_le (by have := LX.out; omega), List.drop_eq_nil_of_le (by have := LY.out; omega)] at hr
      obtain rfl : 0 = r := hr
      have HB := Aside0.mk hb
      clear b5 b6 hb
      go_wp2
      go_ret
      exact ⟨rfl, HB.out⟩
end Go.Proofs.YtofnhgpiipmegaaDoor.PV
namespace Go.Proofs.YtofnhgpiipmegaaDoor.PV
open Go.RowKit Go.Proofs.YtofnhgpiipmegaaDoorW.PrintWords Go.Proofs.YtofnhgpiipmegaaDoorW.PrintLast Go.Proofs.YtofnhgpiipmegaaDoorW.PrintMore
set_option linter.unusedVariables false
set_option linter.unusedSimpArgs false
/-- What is left behind k bits; the quotient's bits so far. -/
def dvL (x : List Bool) (b : Int) : Nat → Int
  | 0 => 0
  | k + 1 => let v := 2 * dvL x b k + (if x.getD k false then 1 else 0); if b ≤ v then v - b else v
def dvO (x : List Bool) (b : Int) : Nat → List Bool
  | 0 => List.replicate 128 false
  | k + 1 => if b ≤ 2 * dvL x b k + (if x.getD k false then 1 else 0) then (dvO x b k).set k true else dvO x b k
theorem dvO_length (x : List Bool) (b : Int) (k : Nat) : (dvO x b k).length = 128 := by
  induction k with
  | zero => simp [dvO]
  | succ k ih =>
    have e : dvO x b (k + 1) = if b ≤ 2 * dvL x b k + (if x.getD k false then 1 else 0) then (dvO x b k).set k true else dvO x b k := rfl
    by_cases h : b ≤ 2 * dvL x b k + (if x.getD k false then 1 else 0)
    · rw [e, if_pos h, List.length_set, ih]
    · rw [e, if_neg h, ih]
theorem dvL_bd (x : List Bool) (b : Int) (hb : 1 ≤ b) (k : Nat) : 0 ≤ dvL x b k ∧ dvL x b k < b := by
  induction k with
  | zero => simp [dvL]; omega
  | succ k ih =>
    have e : dvL x b (k + 1) = if b ≤ 2 * dvL x b k + (if x.getD k false then 1 else 0) then 2 * dvL x b k + (if x.getD k false then 1 else 0) - b else 2 * dvL x b k + (if x.getD k false then 1 else 0) := rfl
    rw [e]
    split <;> split <;> omega
def turnoutref01_divided.f (a0_0 a0_1 a1 : Int) : Option (Int × Int × Int) :=
  if 1 ≤ a1 ∧ a1 ≤ 1048576 then some (takeHi (dvO (layL a0_0 a0_1) a1 128), takeLo (dvO (layL a0_0 a0_1) a1 128), dvL (layL a0_0 a0_1) a1 128) else none
def DivRel (w : World) (x : List Bool) (b : Int) (k g6 : Nat) (wr : World) : Prop :=
  wr.heap[w.heap.size + 1]? = some (.cells #[.int .u64 0, .int .u64 0] 24 (0, 0)) ∧ wr.heap[g6]? = some (.cells (bcells x) 69 (0, 0)) ∧ wr.heap[g6 + 1]? = some (.cells (bcells (dvO x b k)) 69 (0, 0)) ∧ Below w.heap.size w wr
set_option maxHeartbeats 8000000 in
set_option maxRecDepth 100000 in
theorem turnoutref01_divided.calls (a0_0 a0_1 a1 r1 r2 r3 : Int) (w : World) (h : turnoutref01_divided.f a0_0 a0_1 a1 = some (r1, r2, r3)) :
    Calls Tryd.prog 72 #[.agg #[.int .u64 a0_0, .int .u64 a0_1], .int .i64 a1] w fun e w' => e = .returned (.tuple #[.agg #[.int .u64 r1, .int .u64 r2], .int .i64 r3]) ∧ Below w.heap.size w w' := by
  have hu24 := Tryd.underlying24
  unfold turnoutref01_divided.f at h
  split at h
  case isFalse => exact absurd h (by simp)
  rename_i ha
  obtain ⟨ha1, ha2⟩ := ha
  obtain ⟨X, hX⟩ : ∃ X, layL a0_0 a0_1 = X := ⟨_, rfl⟩
  have lx : X.length = 128 := by rw [← hX, layL_length]
  rw [hX] at h
  simp only [Option.some.injEq, Prod.mk.injEq] at h
  obtain ⟨h1, h2, h3⟩ := h
  have C7 := Aside0.mk (fun w => lay_calls a0_0 a0_1 w)
  rw [hX] at C7
  have LX := Aside0.mk lx
  have C9 := Aside0.mk (fun w => take_callsR (dvO X a1 128) (dvO_length _ _ _) r1 r2 ⟨h1, h2⟩ w)
  have S9 := Aside0.mk (size69 (dvO X a1 128) (dvO_length _ _ _))
  have H3 := Aside0.mk h3
  clear h1 h2 h3 hX lx
  go_enter Tryd.func72, Tryd.ntmps72
  go_wp2_with fail
  refine (C7.out _).mono ?_
  rintro e w1 ⟨rfl, hb⟩
  have HB1 := Aside0.mk (below_step (below_alloc (below_alloc (Below.refl w.heap.size w) _) _) hb)
  have B4 := Aside0.mk (blk_below (heap_alloc2_new w _ _) hb)
  have hs6 := Aside0.mk (blk_lt B4.out)
  clear hb
  go_wp2_with (first | refine wpList_store_fresh rfl 69 _ _ rfl rfl rfl _ rfl 69 _ (size69 _ LX.out) (same69 _ LX.out) (bcells_one _) ?_)
  go_loopw [8, 9] (fun l i wr => ∃ k : Nat, k ≤ 128 ∧ i = .int .i64 k ∧ l = .int .i64 (dvL X a1 k) ∧ DivRel w X a1 k w1.heap.size wr) (fun _ i _ => 128 - (intOf i).toNat)
  case atStart =>
    refine ⟨0, by omega, rfl, rfl, blk_alloc (blk_alloc B4.out _) _, blk_alloc (blk_new _ _) _, ?_, below_alloc (below_alloc HB1.out _) _⟩
    have e : dvO X a1 0 = List.replicate 128 false := rfl
    rw [e, ← zero69]; exact heap_alloc2_new _ _ _
  case round =>
    obtain ⟨k, hk, rfl, rfl, b4, b6, b7, hb⟩ := hrel
    by_cases hlt : k < 128
    · have hlt' : (k : Int) < 128 := by omega
      have hz6 : wr.cell? ⟨w1.heap.size, k, none⟩ = some (.bool (X.getD k false)) := (blk_cell b6 _).trans (bcells_get _ _ (by have := LX.out; omega))
      have hz7 : wr.cell? ⟨w1.heap.size + 1, k, none⟩ = some (.bool ((dvO X a1 k).getD k false)) := (blk_cell b7 _).trans (bcells_get _ _ (by rw [dvO_length]; omega))
      have hf7 := blk_frozen b7 k
      have b10 := blk_set b7 k (.bool true)
      rw [bcells_set] at b10
      have B4' := Aside0.mk (blk_far b4 (p := ⟨w1.heap.size + 1, k, none⟩) (by have := hs6.out; simp only []; omega) (.bool true))
      have B6' := Aside0.mk (blk_far b6 (p := ⟨w1.heap.size + 1, k, none⟩) (by have := hs6.out; simp only []; omega) (.bool true))
      have B10 := Aside0.mk b10
      have B4 := Aside0.mk b4
      have B6 := Aside0.mk b6
      have B7 := Aside0.mk b7
      have HB := Aside0.mk hb
      obtain ⟨hd1, hd2⟩ := dvL_bd X a1 ha1 k
      have hL : dvL X a1 (k + 1) = if a1 ≤ 2 * dvL X a1 k + (if X.getD k false then 1 else 0) then 2 * dvL X a1 k + (if X.getD k false then 1 else 0) - a1 else 2 * dvL X a1 k + (if X.getD k false then 1 else 0) := rfl
      have hO : dvO X a1 (k + 1) = if a1 ≤ 2 * dvL X a1 k + (if X.getD k false then 1 else 0) then (dvO X a1 k).set k true else dvO X a1 k := rfl
      clear b4 b6 b7 b10 hb
      cases h1 : X.getD k false
      all_goals
        rw [h1] at hz6 hL hO
        simp only [Bool.false_eq_true, if_false, if_true] at hL hO
        clear h1
      · by_cases hc : a1 ≤ dvL X a1 k * 2
        · rw [if_pos (by omega)] at hL hO
          have HL := Aside0.mk hL
          have HO := Aside0.mk hO
          have t1 : decide (a1 ≤ dvL X a1 k * 2) = true := decide_eq_true hc
          clear hL hO
          generalize dvL X a1 k = L at *
          go_wp2
          go_roundw
          case rel => exact ⟨k + 1, by omega, by go_num, by rw [HL.out]; congr 1; omega, B4'.out, B6'.out, by rw [HO.out]; exact B10.out, below_set HB.out (by have := hs6.out; omega)⟩
          case measure => simp [intOf]; omega
        · rw [if_neg (by omega)] at hL hO
          have HL := Aside0.mk hL
          have HO := Aside0.mk hO
          have t1 : decide (a1 ≤ dvL X a1 k * 2) = false := decide_eq_false hc
          clear hL hO
          generalize dvL X a1 k = L at *
          go_wp2
          go_roundw
          case rel => exact ⟨k + 1, by omega, by go_num, by rw [HL.out]; congr 1; omega, B4.out, B6.out, by rw [HO.out]; exact B7.out, HB.out⟩
          case measure => simp [intOf]; omega
      · by_cases hc : a1 ≤ dvL X a1 k * 2 + 1
        · rw [if_pos (by omega)] at hL hO
          have HL := Aside0.mk hL
          have HO := Aside0.mk hO
          have t1 : decide (a1 ≤ dvL X a1 k * 2 + 1) = true := decide_eq_true hc
          clear hL hO
          generalize dvL X a1 k = L at *
          go_wp2
          go_roundw
          case rel => exact ⟨k + 1, by omega, by go_num, by rw [HL.out]; congr 1; omega, B4'.out, B6'.out, by rw [HO.out]; exact B10.out, below_set HB.out (by have := hs6.out; omega)⟩
          case measure => simp [intOf]; omega
        · rw [if_neg (by omega)] at hL hO
          have HL := Aside0.mk hL
          have HO := Aside0.mk hO
          have t1 : decide (a1 ≤ dvL X a1 k * 2 + 1) = false := decide_eq_false hc
          clear hL hO
          generalize dvL X a1 k = L at *
          go_wp2
          go_roundw
          case rel => exact ⟨k + 1, by omega, by go_num, by rw [HL.out]; congr 1; omega, B4.out, B6.out, by rw [HO.out]; exact B7.out, HB.out⟩
          case measure => simp [intOf]; omega
    · obtain rfl : 128 = k := by omega
      have B4 := Aside0.mk b4
      have HB := Aside0.mk hb
      clear b4 b6 hb
      have E3 := Aside0.mk H3.out
      go_wp2_with (first | refine wpList_load_row rfl 69 _ rfl _ rfl 69 _ _ _ b7 Tryd.underlying69 rfl S9.out ?_)
      refine (C9.out _).mono ?_
      rintro e w3 ⟨rfl, hb3⟩
      have b43 := blk_below B4.out hb3
      have hcz0 : w3.cell? ⟨w.heap.size + 1, 0, none⟩ = some (.int .u64 0) := (blk_cell b43 0).trans rfl
      have hcz1 : w3.cell? ⟨w.heap.size + 1, 1, none⟩ = some (.int .u64 0) := (blk_cell b43 1).trans rfl
      have hfz0 := blk_frozen b43 0
      have hfz1 := blk_frozen b43 1
      have B43 := Aside0.mk b43
      have HB3 := Aside0.mk (below_step HB.out hb3)
      clear b43 hb3 b7
      go_wp2
      refine bodyPost_ret (results_ct rfl _ _ (w.heap.size + 1) 24 #[.int .u64 r1, .int .u64 r2] (0, 0) _ rfl (blk_put (cs := #[_, _]) (blk_put (cs := #[_, _]) B43.out 0 _ rfl) 1 _ rfl) Tryd.underlying24 rfl (by kernel_rfl)) rfl ?_
      exact ⟨by rw [← E3.out]; rfl, below_set (below_set HB3.out (by omega)) (by omega)⟩
end Go.Proofs.YtofnhgpiipmegaaDoor.PV
