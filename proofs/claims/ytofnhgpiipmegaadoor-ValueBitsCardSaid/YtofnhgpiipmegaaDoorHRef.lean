/- The reference's functions over layouts of 128 bits: Mask, Cut, Bit, Add, Sub, Compare, divided: what each comes to, as a function on lists of bits. -/
import Derived.Test.YtofnhgpiipmegaaDoorHTake
namespace Go.Proofs.YtofnhgpiipmegaaDoor.PV
open Go.RowKit Go.Proofs.YtofnhgpiipmegaaDoorW.PrintWords Go.Proofs.YtofnhgpiipmegaaDoorW.PrintLast Go.Proofs.YtofnhgpiipmegaaDoorW.PrintMore
set_option linter.unusedVariables false
set_option linter.unusedSimpArgs false
theorem layL_length (hi lo : Int) : (layL hi lo).length = 128 := layN_length hi lo 64
theorem setRow_alloc (w : World) (cur cs : Array Value) (t : TypeId) (fz : Nat × Nat) : (w.alloc (.cells cur t fz)).setRow w.heap.size cs = w.alloc (.cells cs t fz) := by
  unfold World.setRow World.alloc
  congr 1
  apply Array.ext
  · simp
  intro i h1 h2
  simp only [Array.getElem_modify, Array.getElem_push]
  split
  · rename_i h; subst h; simp
  · rename_i h
    have h3 : i < w.heap.size := by simp at h2; omega
    simp [h3]
/-- A fresh array variable is given its first row. -/
theorem wpList_store_fresh {P : Program} {ops : Array Oper} {rest : List Oper} {o : Oper} {a : Act} {w : World} {Q : Exit → Act → World → Prop} (hgd : o.guard = none) (ty : TypeId) (x y : Operand) (ho : o.op = .store ty x y) (hdst : o.dst = none)
    (hx : a.eval x = .pointer (some ⟨w.heap.size, 0, none⟩)) (cs : Array Value) (hy : a.eval y = .agg cs) (t : TypeId) (cur : Array Value)
    (hi : (P.info? ty).map (·.size) = some cs.size) (hs : cs.size = cur.size) (h1 : ∀ v ∈ cs.toList, v.oneCell' = true)
    (h : wpList P ops Q rest a (w.alloc (.cells cs t (0, 0)))) : wpList P ops Q (o :: rest) a (w.alloc (.cells cur t (0, 0))) :=
  wpList_store_row hgd ty x y ho hdst w.heap.size hx cs hy t cur (blk_new w _) hi hs h1 (by rw [setRow_alloc]; exact h)
theorem size69 (l : List Bool) (h : l.length = 128) : (Tryd.prog.info? 69).map (·.size) = some (bcells l).size := by
  rw [bcells_size, h]; kernel_rfl
theorem same69 (l : List Bool) (h : l.length = 128) : (bcells l).size = Tryd.zeroCells69.size := by
  rw [zero69, bcells_size, bcells_size, h, List.length_replicate]
theorem take_bits (l : List Bool) (hl : l.length = 128) : 0 ≤ takeHi l ∧ takeHi l < 18446744073709551616 ∧ 0 ≤ takeLo l ∧ takeLo l < 18446744073709551616 := by
  have h1 := worthL_bd (l.take 64)
  have h2 := worthL_bd ((l.drop 64).take 64)
  have e1 : (l.take 64).length = 64 := by rw [List.length_take]; omega
  have e2 : ((l.drop 64).take 64).length = 64 := by rw [List.length_take, List.length_drop]; omega
  rw [e1] at h1; rw [e2] at h2
  unfold takeHi takeLo
  have h4 : (2 : Int) ^ 64 = 18446744073709551616 := by decide
  omega
theorem take_callsR (l : List Bool) (hl : l.length = 128) (r1 r2 : Int) (h : takeHi l = r1 ∧ takeLo l = r2) (w : World) :
    Calls Tryd.prog 62 #[.agg (bcells l)] w fun e w' => e = .returned (.agg #[.int .u64 r1, .int .u64 r2]) ∧ Below w.heap.size w w' := by
  obtain ⟨rfl, rfl⟩ := h
  exact take_calls l hl w
/-! Cut -/
def cutL (l : List Bool) (k : Nat) : List Bool := List.replicate k false ++ l.drop k
theorem cutL_length (l : List Bool) (k : Nat) (h : k ≤ l.length) : (cutL l k).length = l.length := by simp [cutL]; omega
theorem cutL_step (l : List Bool) (k : Nat) (h : k < l.length) : (cutL l k).set k false = cutL l (k + 1) := by
  apply List.ext_getElem
  · rw [List.length_set, cutL_length l k (by omega), cutL_length l (k + 1) (by omega)]
  intro j h1 h2
  simp only [cutL, List.getElem_set, List.getElem_append, List.length_replicate, List.getElem_replicate, List.getElem_drop]
  by_cases h3 : k = j
  · subst h3; simp
  · rw [if_neg h3]
    by_cases h4 : j < k
    · rw [dif_pos h4, dif_pos (by omega)]
    · rw [dif_neg h4, dif_neg (by omega)]
      congr 1; omega
def turnoutref01_Cut.f (a0_0 a0_1 a1 : Int) : Option (Int × Int) :=
  if 1 ≤ a1 ∧ a1 ≤ 128 then some (takeHi (cutL (layL a0_0 a0_1) (128 - a1.toNat)), takeLo (cutL (layL a0_0 a0_1) (128 - a1.toNat))) else some (0, 0)
theorem width_yes {a : Int} (h : 1 ≤ a ∧ a ≤ 128) : turnoutref01_Width.f a = some true := by
  unfold turnoutref01_Width.f; rw [if_pos h.1]; simp [h.2]
theorem width_no {a : Int} (h : ¬ (1 ≤ a ∧ a ≤ 128)) : turnoutref01_Width.f a = some false := by
  unfold turnoutref01_Width.f
  split
  · have : ¬ a ≤ 128 := by omega
    simp [this]
  · rfl
def CutRel (w : World) (l : List Bool) (k : Nat) (g5 : Nat) (wr : World) : Prop :=
  wr.heap[w.heap.size + 1]? = some (.cells #[.int .u64 0, .int .u64 0] 24 (0, 0)) ∧ wr.heap[g5]? = some (.cells (bcells (cutL l k)) 69 (0, 0)) ∧ w.heap.size + 1 < g5 ∧ Below w.heap.size w wr
set_option maxHeartbeats 8000000 in
set_option maxRecDepth 100000 in
theorem turnoutref01_Cut.calls (a0_0 a0_1 a1 r1 r2 : Int) (w : World) (h : turnoutref01_Cut.f a0_0 a0_1 a1 = some (r1, r2)) :
    Calls Tryd.prog 34 #[.agg #[.int .u64 a0_0, .int .u64 a0_1], .int .i64 a1] w fun e w' => e = .returned (.agg #[.int .u64 r1, .int .u64 r2]) ∧ Below w.heap.size w w' := by
  have hu24 := Tryd.underlying24
  unfold turnoutref01_Cut.f at h
  by_cases hw : 1 ≤ a1 ∧ a1 ≤ 128
  · rw [if_pos hw] at h
    obtain ⟨n, rfl⟩ : ∃ n : Nat, a1 = n := ⟨a1.toNat, by omega⟩
    rw [Int.toNat_natCast] at h
    have A := Aside0.mk (width_yes hw)
    have hn1 : 1 ≤ n := by omega
    have hn2 : n ≤ 128 := by omega
    simp only [Option.some.injEq, Prod.mk.injEq] at h
    have R := Aside0.mk h
    clear h hw
    go_enter Tryd.func34, Tryd.ntmps34
    go_wp2_with fail
    refine (turnoutref01_Width.calls _ true _ A.out).mono ?_
    rintro e w1 ⟨rfl, ⟨nd, rfl⟩⟩
    go_wp2_with fail
    refine (lay_calls a0_0 a0_1 _).mono ?_
    rintro e w1 ⟨rfl, hb⟩
    have hb1 := below_step (pw_below_drewN (below_alloc (below_alloc (Below.refl w.heap.size w) (.cells #[.int .u64 a0_0, .int .u64 a0_1] 24)) (.cells #[.int .u64 0, .int .u64 0] 24)) nd) hb
    have b4 : w1.heap[w.heap.size + 1]? = some (.cells #[.int .u64 0, .int .u64 0] 24 (0, 0)) := by
      have hz := hb.block (w.heap.size + 1) (by show w.heap.size + 1 < (World.alloc _ _).heap.size; simp only [World.size_alloc]; omega)
      rw [hz]; exact blk_drewN (blk_at (by simp only [World.size_alloc])) _
    have hsz : w.heap.size + 1 < w1.heap.size := blk_lt b4
    have HB := Aside0.mk hb1
    have B4 := Aside0.mk b4
    clear hb hb1 b4
    go_wp2_with (refine wpList_store_fresh rfl 69 _ _ rfl rfl rfl _ rfl 69 _ (size69 _ (layL_length _ _)) (same69 _ (layL_length _ _)) (bcells_one _) ?_)
    go_loopw [6] (fun i wr => ∃ k : Nat, k ≤ 128 - n ∧ i = .int .i64 k ∧ CutRel w (layL a0_0 a0_1) k w1.heap.size wr) (fun i _ => 128 - (intOf i).toNat)
    case atStart =>
      refine ⟨0, by omega, rfl, blk_alloc B4.out _, ?_, hsz, below_alloc HB.out _⟩
      have e : cutL (layL a0_0 a0_1) 0 = layL a0_0 a0_1 := by simp [cutL]
      rw [e]; exact blk_new _ _
    case round =>
      obtain ⟨k, hk, rfl, b4, b5, hs5, hb⟩ := hrel
      by_cases hlt : k < 128 - n
      · have hlt' : (k : Int) < 128 - (n : Int) := by omega
        have hcz : wr.cell? ⟨w1.heap.size, k, none⟩ = some (.bool ((cutL (layL a0_0 a0_1) k).getD k false)) := (blk_cell b5 _).trans (bcells_get _ _ (by rw [cutL_length _ _ (by rw [layL_length]; omega), layL_length]; omega))
        have hfz := blk_frozen b5 k
        have b6 := blk_set b5 k (.bool false)
        rw [bcells_set, cutL_step _ _ (by rw [layL_length]; omega)] at b6
        have B4' := Aside0.mk (blk_far b4 (p := ⟨w1.heap.size, k, none⟩) (by simp only []; omega) (.bool false))
        have B6 := Aside0.mk b6
        have HB' := Aside0.mk hb
        clear b4 b5 b6 hb
        go_wp2
        go_roundw
        case rel => exact ⟨k + 1, by omega, by go_num, B4'.out, B6.out, hs5, below_set HB'.out (by omega)⟩
        case measure => simp [intOf]; omega
      · have hge : ¬ (k : Int) < 128 - (n : Int) := by omega
        obtain rfl : 128 - n = k := by omega
        have l1 : (cutL (layL a0_0 a0_1) (128 - n)).length = 128 := by rw [cutL_length _ _ (by rw [layL_length]; omega), layL_length]
        have L1 := Aside0.mk l1
        have B4' := Aside0.mk b4
        have HB' := Aside0.mk hb
        clear b4 hb l1
        go_wp2_with (first | refine wpList_load_row rfl 69 _ rfl _ rfl 69 _ _ _ b5 Tryd.underlying69 rfl (size69 _ L1.out) ?_)
        refine (take_callsR _ L1.out r1 r2 R.out _).mono ?_
        rintro e w2 ⟨rfl, hb2⟩
        have b42 := blk_below B4'.out hb2
        have hcz0 : w2.cell? ⟨w.heap.size + 1, 0, none⟩ = some (.int .u64 0) := (blk_cell b42 0).trans rfl
        have hcz1 : w2.cell? ⟨w.heap.size + 1, 1, none⟩ = some (.int .u64 0) := (blk_cell b42 1).trans rfl
        have hfz0 := blk_frozen b42 0
        have hfz1 := blk_frozen b42 1
        have B42 := Aside0.mk b42
        have HB2 := Aside0.mk (below_step HB'.out hb2)
        clear b42 hb2 b5
        go_wp2
        refine bodyPost_ret (results_cell_row rfl _ _ (w.heap.size + 1) 24 #[.int .u64 r1, .int .u64 r2] (0, 0) _ rfl (blk_put (cs := #[_, _]) (blk_put (cs := #[_, _]) B42.out 0 _ rfl) 1 _ rfl) Tryd.underlying24 rfl (by kernel_rfl)) rfl ?_
        exact ⟨rfl, below_set (below_set HB2.out (by omega)) (by omega)⟩
  · rw [if_neg hw] at h
    simp only [Option.some.injEq, Prod.mk.injEq] at h
    obtain ⟨rfl, rfl⟩ := h
    have A := Aside0.mk (width_no hw)
    clear hw
    go_enter Tryd.func34, Tryd.ntmps34
    go_wp2_with fail
    refine (turnoutref01_Width.calls _ false _ A.out).mono ?_
    rintro e w1 ⟨rfl, ⟨nd, rfl⟩⟩
    go_wp2
    refine bodyPost_ret (results_cell_row rfl _ _ (w.heap.size + 1) 24 #[.int .u64 0, .int .u64 0] (0, 0) _ rfl (blk_put (cs := #[_, _]) (blk_put (cs := #[_, _]) (blk_drewN (heap_alloc2_new w _ _) _) 0 _ rfl) 1 _ rfl) Tryd.underlying24 rfl (by kernel_rfl)) rfl ?_
    exact ⟨rfl, below_set (below_set (pw_below_drewN (below_alloc (below_alloc (Below.refl w.heap.size w) _) _) _) (by omega)) (by omega)⟩
/-! Mask -/
def maskL (w n : Nat) : List Bool := (List.range 128).map fun j => decide (128 - w ≤ j) && decide (j < 128 - w + n)
theorem maskL_length (w n : Nat) : (maskL w n).length = 128 := by simp [maskL]
theorem maskL_zero (w : Nat) : maskL w 0 = List.replicate 128 false := by
  apply List.ext_getElem
  · simp [maskL]
  intro j h1 h2
  simp only [maskL, List.getElem_map, List.getElem_range, List.getElem_replicate]
  simp
theorem maskL_step (w n : Nat) (h : 128 - w + n < 128) : (maskL w n).set (128 - w + n) true = maskL w (n + 1) := by
  apply List.ext_getElem
  · simp [maskL]
  intro j h1 h2
  simp only [maskL, List.getElem_set, List.getElem_map, List.getElem_range]
  by_cases h3 : 128 - w + n = j
  · rw [if_pos h3]; subst h3; simp
  · rw [if_neg h3]
    congr 1
    apply decide_eq_decide.2; omega
def turnoutref01_Mask.f (a0 a1 : Int) : Option (Int × Int × Int) :=
  if 1 ≤ a0 ∧ a0 ≤ 128 then (if 0 ≤ a1 ∧ a1 ≤ a0 then some (takeHi (maskL a0.toNat a1.toNat), takeLo (maskL a0.toNat a1.toNat), 0) else some (0, 0, 1)) else some (0, 0, 10)
def MaskRel (w : World) (m k : Nat) (wr : World) : Prop :=
  wr.heap[w.heap.size]? = some (.cells #[.int .u64 0, .int .u64 0] 24 (0, 0)) ∧ wr.heap[w.heap.size + 1]? = some (.cells (bcells (maskL m k)) 69 (0, 0)) ∧ Below w.heap.size w wr
set_option maxHeartbeats 8000000 in
set_option maxRecDepth 100000 in
theorem turnoutref01_Mask.calls (a0 a1 r1 r2 r3 : Int) (w : World) (h : turnoutref01_Mask.f a0 a1 = some (r1, r2, r3)) :
    Calls Tryd.prog 26 #[.int .i64 a0, .int .i64 a1] w fun e w' => e = .returned (.tuple #[.agg #[.int .u64 r1, .int .u64 r2], .int .i64 r3]) ∧ Below w.heap.size w w' := by
  have hu24 := Tryd.underlying24
  unfold turnoutref01_Mask.f at h
  by_cases hw : 1 ≤ a0 ∧ a0 ≤ 128
  · rw [if_pos hw] at h
    have A := Aside0.mk (width_yes hw)
    by_cases hn : 0 ≤ a1 ∧ a1 ≤ a0
    · rw [if_pos hn] at h
      obtain ⟨m, rfl⟩ : ∃ n : Nat, a0 = n := ⟨a0.toNat, by omega⟩
      obtain ⟨n, rfl⟩ : ∃ n : Nat, a1 = n := ⟨a1.toNat, by omega⟩
      rw [Int.toNat_natCast, Int.toNat_natCast] at h
      simp only [Option.some.injEq, Prod.mk.injEq] at h
      obtain ⟨h1, h2, rfl⟩ := h
      have R := Aside0.mk (And.intro h1 h2)
      have hm1 : 1 ≤ m := by omega
      have hm2 : m ≤ 128 := by omega
      have hnm : n ≤ m := by omega
      have t1 : decide ((n : Int) < 0) = false := decide_eq_false (by omega)
      have t2 : decide ((m : Int) < (n : Int)) = false := decide_eq_false (by omega)
      have t3 : decide (m < n) = false := decide_eq_false (by omega)
      clear h1 h2 hw hn
      go_enter Tryd.func26, Tryd.ntmps26
      go_wp2_with fail
      refine (turnoutref01_Width.calls _ true _ A.out).mono ?_
      rintro e w1 ⟨rfl, ⟨nd, rfl⟩⟩
      go_wp2_with fail
      go_loopw [7] (fun i wr => ∃ k : Nat, k ≤ n ∧ i = .int .i64 k ∧ MaskRel w m k wr) (fun i _ => n - (intOf i).toNat)
      case atStart =>
        refine ⟨0, by omega, rfl, blk_alloc (blk_drewN (blk_new _ _) _) _, ?_, below_alloc (pw_below_drewN (below_alloc (Below.refl w.heap.size w) _) _) _⟩
        rw [maskL_zero, ← zero69]
        exact blk_at (by show w.heap.size + 1 = (World.alloc _ _).heap.size; rw [World.size_alloc])
      case round =>
        obtain ⟨k, hk, rfl, b4, b6, hb⟩ := hrel
        by_cases hlt : k < n
        · have hcz : wr.cell? ⟨w.heap.size + 1, 128 - m + k, none⟩ = some (.bool ((maskL m k).getD (128 - m + k) false)) := (blk_cell b6 _).trans (bcells_get _ _ (by rw [maskL_length]; omega))
          have hfz := blk_frozen b6 (128 - m + k)
          have b7 := blk_set b6 (128 - m + k) (.bool true)
          rw [bcells_set, maskL_step _ _ (by omega)] at b7
          have B4 := Aside0.mk (blk_far b4 (p := ⟨w.heap.size + 1, 128 - m + k, none⟩) (by simp only []; omega) (.bool true))
          have B7 := Aside0.mk b7
          have HB := Aside0.mk hb
          clear b4 b6 b7 hb
          go_wp2
          go_roundw
          case rel => exact ⟨k + 1, by omega, by go_num, B4.out, B7.out, below_set HB.out (by omega)⟩
          case measure => simp [intOf]; omega
        · obtain rfl : n = k := by omega
          have B4 := Aside0.mk b4
          have HB := Aside0.mk hb
          clear b4 hb
          go_wp2_with (first | refine wpList_load_row rfl 69 _ rfl _ rfl 69 _ _ _ b6 Tryd.underlying69 rfl (size69 _ (maskL_length _ _)) ?_)
          refine (take_callsR _ (maskL_length _ _) r1 r2 R.out _).mono ?_
          rintro e w2 ⟨rfl, hb2⟩
          have b42 := blk_below B4.out hb2
          have hcz0 : w2.cell? ⟨w.heap.size, 0, none⟩ = some (.int .u64 0) := (blk_cell b42 0).trans rfl
          have hcz1 : w2.cell? ⟨w.heap.size, 1, none⟩ = some (.int .u64 0) := (blk_cell b42 1).trans rfl
          have hfz0 := blk_frozen b42 0
          have hfz1 := blk_frozen b42 1
          have B42 := Aside0.mk b42
          have HB2 := Aside0.mk (below_step HB.out hb2)
          clear b42 hb2 b6
          go_wp2
          refine bodyPost_ret (results_ct rfl _ _ w.heap.size 24 #[.int .u64 r1, .int .u64 r2] (0, 0) _ rfl (blk_put (cs := #[_, _]) (blk_put (cs := #[_, _]) B42.out 0 _ rfl) 1 _ rfl) Tryd.underlying24 rfl (by kernel_rfl)) rfl ?_
          exact ⟨rfl, below_set (below_set HB2.out (by simp)) (by simp)⟩
    · rw [if_neg hn] at h
      simp only [Option.some.injEq, Prod.mk.injEq] at h
      obtain ⟨rfl, rfl, rfl⟩ := h
      by_cases hneg : a1 < 0
      · have t1 : decide (a1 < 0) = true := decide_eq_true hneg
        clear hw hn hneg
        go_enter Tryd.func26, Tryd.ntmps26
        go_wp2_with fail
        refine (turnoutref01_Width.calls _ true _ A.out).mono ?_
        rintro e w1 ⟨rfl, ⟨nd, rfl⟩⟩
        go_wp2
        refine bodyPost_ret (results_ct rfl _ _ w.heap.size 24 #[.int .u64 0, .int .u64 0] (0, 0) _ rfl (blk_put (cs := #[_, _]) (blk_put (cs := #[_, _]) (blk_drewN (blk_new _ _) _) 0 _ rfl) 1 _ rfl) Tryd.underlying24 rfl (by kernel_rfl)) rfl ?_
        exact ⟨rfl, below_set (below_set (pw_below_drewN (below_alloc (Below.refl w.heap.size w) _) _) (by simp)) (by simp)⟩
      · have t1 : decide (a1 < 0) = false := decide_eq_false hneg
        have t2 : decide (a0 < a1) = true := decide_eq_true (by omega)
        clear hw hn hneg
        go_enter Tryd.func26, Tryd.ntmps26
        go_wp2_with fail
        refine (turnoutref01_Width.calls _ true _ A.out).mono ?_
        rintro e w1 ⟨rfl, ⟨nd, rfl⟩⟩
        go_wp2
        refine bodyPost_ret (results_ct rfl _ _ w.heap.size 24 #[.int .u64 0, .int .u64 0] (0, 0) _ rfl (blk_put (cs := #[_, _]) (blk_put (cs := #[_, _]) (blk_drewN (blk_new _ _) _) 0 _ rfl) 1 _ rfl) Tryd.underlying24 rfl (by kernel_rfl)) rfl ?_
        exact ⟨rfl, below_set (below_set (pw_below_drewN (below_alloc (Below.refl w.heap.size w) _) _) (by simp)) (by simp)⟩
  · rw [if_neg hw] at h
    simp only [Option.some.injEq, Prod.mk.injEq] at h
    obtain ⟨rfl, rfl, rfl⟩ := h
    have A := Aside0.mk (width_no hw)
    clear hw
    go_enter Tryd.func26, Tryd.ntmps26
    go_wp2_with fail
    refine (turnoutref01_Width.calls _ false _ A.out).mono ?_
    rintro e w1 ⟨rfl, ⟨nd, rfl⟩⟩
    go_wp2
    refine bodyPost_ret (results_ct rfl _ _ w.heap.size 24 #[.int .u64 0, .int .u64 0] (0, 0) _ rfl (blk_put (cs := #[_, _]) (blk_put (cs := #[_, _]) (blk_drewN (blk_new _ _) _) 0 _ rfl) 1 _ rfl) Tryd.underlying24 rfl (by kernel_rfl)) rfl ?_
    exact ⟨rfl, below_set (below_set (pw_below_drewN (below_alloc (Below.refl w.heap.size w) _) _) (by simp)) (by simp)⟩
end Go.Proofs.YtofnhgpiipmegaaDoor.PV
