/- The reference's 'take': 128 bits, highest first, back as a value. -/
import Derived.Test.YtofnhgpiipmegaaDoorHLay
namespace Go.Proofs.YtofnhgpiipmegaaDoor.PV
open Go.RowKit Go.Proofs.YtofnhgpiipmegaaDoorW.PrintWords Go.Proofs.YtofnhgpiipmegaaDoorW.PrintLast Go.Proofs.YtofnhgpiipmegaaDoorW.PrintMore
set_option linter.unusedVariables false
set_option linter.unusedSimpArgs false
/-- What bits, the highest first, are worth. -/
def worthL (l : List Bool) : Int := l.foldl (fun x b => 2 * x + (if b then 1 else 0)) 0
theorem worthL_snoc (l : List Bool) (b : Bool) : worthL (l ++ [b]) = 2 * worthL l + (if b then 1 else 0) := by simp [worthL]
theorem foldW : ∀ (l : List Bool) (x : Int) (n : Nat), 0 ≤ x → x < 2 ^ n → 0 ≤ l.foldl (fun x b => 2 * x + (if b then 1 else 0)) x ∧ l.foldl (fun x b => 2 * x + (if b then 1 else 0)) x < 2 ^ (n + l.length) := by
  intro l
  induction l with
  | nil => intro x n h0 h1; exact ⟨h0, h1⟩
  | cons b l ih =>
    intro x n h0 h1
    have h := ih (2 * x + (if b then 1 else 0)) (n + 1) (by split <;> omega) (by rw [Int.pow_succ]; split <;> omega)
    rw [List.foldl_cons, List.length_cons, show n + (l.length + 1) = n + 1 + l.length from by omega]
    exact h
theorem worthL_bd (l : List Bool) : 0 ≤ worthL l ∧ worthL l < 2 ^ l.length := by
  have h := foldW l 0 0 (by omega) (by simp)
  rw [Nat.zero_add] at h
  exact h
theorem take_snocB (l : List Bool) (k : Nat) (h : k < l.length) : l.take (k + 1) = l.take k ++ [l.getD k false] := by
  rw [List.take_succ_eq_append_getElem h]; simp [List.getD, h]
def takeHi (l : List Bool) : Int := worthL (l.take 64)
def takeLo (l : List Bool) : Int := worthL ((l.drop 64).take 64)
theorem wrapU {x : Int} (h0 : 0 ≤ x) (h1 : x < 18446744073709551616) : IntKind.u64.wrap x = x := by
  have : IntKind.u64.wrap x = x % 18446744073709551616 := rfl
  rw [this]; omega
theorem worth_lt {l : List Bool} {k : Nat} (hk : k < 64) : 0 ≤ worthL (l.take k) ∧ worthL (l.take k) < 9223372036854775808 := by
  have h := worthL_bd (l.take k)
  have h2 : (l.take k).length ≤ 63 := by rw [List.length_take]; omega
  have h3 : (2 : Int) ^ (l.take k).length ≤ 2 ^ 63 := by have := Nat.pow_le_pow_right (n := 2) (by decide) h2; exact_mod_cast this
  have h4 : (2 : Int) ^ 63 = 9223372036854775808 := by decide
  omega
theorem takeF {l : List Bool} {k : Nat} (hk : k < 64) (hl : k < l.length) (h : l.getD k false = false) : IntKind.u64.wrap (worthL (l.take k) * 2) = worthL (l.take (k + 1)) := by
  have := worth_lt (l := l) hk
  rw [take_snocB l k hl, worthL_snoc, h, wrapU (by omega) (by omega)]; simp; omega
theorem takeT {l : List Bool} {k : Nat} (hk : k < 64) (hl : k < l.length) (h : l.getD k false = true) : IntKind.u64.wrap (IntKind.u64.wrap (worthL (l.take k) * 2) + 1) = worthL (l.take (k + 1)) := by
  have := worth_lt (l := l) hk
  rw [take_snocB l k hl, worthL_snoc, h, wrapU (x := worthL (l.take k) * 2) (by omega) (by omega), wrapU (by omega) (by omega)]; simp; omega
theorem drop_getD (l : List Bool) (k : Nat) : (l.drop 64).getD k false = l.getD (64 + k) false := by simp [List.getD]
def TakeRel (w : World) (l : List Bool) (k : Nat) (wr : World) : Prop :=
  wr.heap[w.heap.size]? = some (.cells (bcells l) 69 (0, 0)) ∧ wr.heap[w.heap.size + 1]? = some (.cells #[.int .u64 0, .int .u64 0] 24 (0, 0)) ∧ wr.heap[w.heap.size + 1 + 1]? = some (.cells #[.int .u64 (worthL (l.take k)), .int .u64 (worthL ((l.drop 64).take k))] 24 (0, 0)) ∧ Below w.heap.size w wr
set_option maxHeartbeats 8000000 in
set_option maxRecDepth 100000 in
theorem take_calls (l : List Bool) (hl : l.length = 128) (w : World) :
    Calls Tryd.prog 62 #[.agg (bcells l)] w fun e w' => e = .returned (.agg #[.int .u64 (takeHi l), .int .u64 (takeLo l)]) ∧ Below w.heap.size w w' := by
  have hu24 := Tryd.underlying24
  have HL := Aside0.mk hl
  clear hl
  go_enter Tryd.func62, Tryd.ntmps62
  go_wp2_with fail
  go_loopw [4] (fun i wr => ∃ k : Nat, k ≤ 64 ∧ i = .int .i64 k ∧ TakeRel w l k wr) (fun i _ => 64 - (intOf i).toNat)
  case atStart =>
    refine ⟨0, by omega, rfl, ?_, ?_, ?_, ?_⟩
    · exact blk_alloc (blk_alloc (blk_new _ _) _) _
    · exact blk_alloc (blk_at (by simp only [World.size_alloc])) _
    · exact blk_at (by simp only [World.size_alloc])
    · exact below_alloc (below_alloc (below_alloc (Below.refl w.heap.size w) _) _) _
  case round =>
    obtain ⟨k, hk, rfl, hr⟩ := hrel
    obtain ⟨b0, b1, b2, hb⟩ := hr
    by_cases hlt : k < 64
    · have hcz0 : wr.cell? ⟨w.heap.size, k, none⟩ = some (.bool (l.getD k false)) := (blk_cell b0 _).trans (bcells_get _ _ (by have := HL.out; omega))
      have hcz1 : wr.cell? ⟨w.heap.size, 64 + k, none⟩ = some (.bool (l.getD (64 + k) false)) := (blk_cell b0 _).trans (bcells_get _ _ (by have := HL.out; omega))
      have hcz2 : wr.cell? ⟨w.heap.size + 1 + 1, 0, none⟩ = some (.int .u64 (worthL (l.take k))) := (blk_cell b2 0).trans rfl
      have hcz3 : wr.cell? ⟨w.heap.size + 1 + 1, 1, none⟩ = some (.int .u64 (worthL ((l.drop 64).take k))) := (blk_cell b2 1).trans rfl
      have hfz2 := blk_frozen b2 0
      have hfz3 := blk_frozen b2 1
      have B0 := Aside0.mk b0
      have B1 := Aside0.mk b1
      have B2 := Aside0.mk b2
      have HB := Aside0.mk hb
      clear b0 b1 b2 hb
      cases h1 : l.getD k false
      all_goals cases h2 : l.getD (64 + k) false
      all_goals
        rw [h1] at hcz0
        rw [h2] at hcz1
        have H1 := Aside0.mk h1
        have H2 := Aside0.mk ((drop_getD l k).trans h2)
        clear h1 h2
        go_wp2
        go_roundw
        case measure => simp [intOf]; omega
        case rel =>
          have l1 : k < l.length := by have := HL.out; omega
          have l2 : k < (l.drop 64).length := by have := HL.out; rw [List.length_drop]; omega
          refine ⟨k + 1, by omega, by go_num, ?_, ?_, ?_, ?_⟩
          · repeat (first | (with_reducible exact B0.out) | (with_reducible refine blk_far ?_ (by simp only []; omega) _))
          · repeat (first | (with_reducible exact B1.out) | (with_reducible refine blk_far ?_ (by simp only []; omega) _))
          · first
            | rw [← takeF hlt l1 H1.out, ← takeF hlt l2 H2.out]; exact blk_put (cs := #[_, _]) (blk_put (cs := #[_, _]) B2.out 0 _ rfl) 1 _ rfl
            | rw [← takeF hlt l1 H1.out, ← takeT hlt l2 H2.out]; exact blk_put (cs := #[_, _]) (blk_put (cs := #[_, _]) (blk_put (cs := #[_, _]) B2.out 0 _ rfl) 1 _ rfl) 1 _ rfl
            | rw [← takeT hlt l1 H1.out, ← takeF hlt l2 H2.out]; exact blk_put (cs := #[_, _]) (blk_put (cs := #[_, _]) (blk_put (cs := #[_, _]) B2.out 0 _ rfl) 1 _ rfl) 0 _ rfl
            | rw [← takeT hlt l1 H1.out, ← takeT hlt l2 H2.out]; exact blk_put (cs := #[_, _]) (blk_put (cs := #[_, _]) (blk_put (cs := #[_, _]) (blk_put (cs := #[_, _]) B2.out 0 _ rfl) 1 _ rfl) 0 _ rfl) 1 _ rfl
          · repeat (first | (with_reducible exact HB.out) | (with_reducible refine below_set ?_ (by omega)))
    · obtain rfl : 64 = k := by omega
      have hcz2 : wr.cell? ⟨w.heap.size + 1 + 1, 0, none⟩ = some (.int .u64 (worthL (l.take 64))) := (blk_cell b2 0).trans rfl
      have hcz3 : wr.cell? ⟨w.heap.size + 1 + 1, 1, none⟩ = some (.int .u64 (worthL ((l.drop 64).take 64))) := (blk_cell b2 1).trans rfl
      have hcz4 : wr.cell? ⟨w.heap.size + 1, 0, none⟩ = some (.int .u64 0) := (blk_cell b1 0).trans rfl
      have hcz5 : wr.cell? ⟨w.heap.size + 1, 1, none⟩ = some (.int .u64 0) := (blk_cell b1 1).trans rfl
      have hfz2 := blk_frozen b1 0
      have hfz3 := blk_frozen b1 1
      have B1 := Aside0.mk b1
      have HB := Aside0.mk hb
      clear b0 b1 b2 hb
      go_wp2
      refine bodyPost_ret (results_cell_row rfl _ _ (w.heap.size + 1) 24 #[.int .u64 (takeHi l), .int .u64 (takeLo l)] (0, 0) _ rfl (blk_set (blk_set B1.out 0 _) 1 _) Tryd.underlying24 rfl (by kernel_rfl)) rfl ?_
      exact ⟨rfl, below_set (below_set HB.out (by omega)) (by omega)⟩
end Go.Proofs.YtofnhgpiipmegaaDoor.PV
