/- value.number: a number read in a base: its bytes one by one, with a product and a sum of halves each. -/
import Derived.Test.YtofnhgpiipmegaaDoorHNumA
namespace Go.Proofs.YtofnhgpiipmegaaDoor.PV
open Go.RowKit Go.Proofs.YtofnhgpiipmegaaDoorW.PrintWords Go.Proofs.YtofnhgpiipmegaaDoorW.PrintLast Go.Proofs.YtofnhgpiipmegaaDoorW.PrintMore
set_option linter.unusedVariables false
set_option linter.unusedSimpArgs false
/-- A string's iterator is moved on. -/
def setIter (w : World) (g : Nat) (s : ByteArray) (p : Nat) : World := { w with heap := w.heap.setIfInBounds g (.stringIter s p) }
theorem run_next_blk {P : Program} (w : World) (g : Nat) (s : ByteArray) (pos : Nat) (ty : TypeId) (hg : w.heap[g]? = some (.stringIter s pos)) (h : pos < s.size) :
    (Instr.next (.pointer (some ⟨g, 0, none⟩)) true ty).run P w = .ok (.tuple #[.bool true, .int .i64 pos, .int .i32 (Utf8.decode s pos).1]) (setIter w g s (pos + (Utf8.decode s pos).2)) := by
  simp only [Instr.next, getObj, setObj, Sem.run_bind, Sem.run, hg, Result.andThen, h, if_true, setIter]
  simp [goInt]
theorem run_next_blk_end {P : Program} (w : World) (g : Nat) (s : ByteArray) (pos : Nat) (ty : TypeId) (hg : w.heap[g]? = some (.stringIter s pos)) (h : ¬ pos < s.size) :
    (Instr.next (.pointer (some ⟨g, 0, none⟩)) true ty).run P w = .ok (.tuple #[.bool false]) w := by
  simp [Instr.next, getObj, Sem.run, hg, h]
theorem setIter_far {w : World} {g k : Nat} {s : ByteArray} {p : Nat} (h : k ≠ g) : (setIter w g s p).heap[k]? = w.heap[k]? := by
  simp [setIter, Ne.symm h]
theorem setIter_at {w : World} {g : Nat} {s : ByteArray} {p : Nat} {o : Obj} (h : w.heap[g]? = some o) : (setIter w g s p).heap[g]? = some (.stringIter s p) := by
  have := blk_lt h
  simp [setIter, this]
theorem below_setIter {B : Nat} {w W : World} (h : Below B w W) {g : Nat} (s : ByteArray) (p : Nat) (hg : B ≤ g) : Below B w (setIter W g s p) :=
  ⟨h.os, h.tape, h.output, by simp [setIter]; exact h.size, fun i hi => (setIter_far (Nat.ne_of_lt (Nat.lt_of_lt_of_le hi hg))).trans (h.block i hi)⟩
/-- One digit more: the low half, its carry, the high half, its carry, does it fit still. -/
def nLo (lo n b : Int) : Int := addHi (mulLo lo b) n 0
def nCy (lo n b : Int) : Int := addCz (mulLo lo b) n 0
def nHi (hi lo n b : Int) : Int := addHi (mulLo hi b) (mulHi lo b) (nCy lo n b)
def nBy (hi lo n b : Int) : Int := addCz (mulLo hi b) (mulHi lo b) (nCy lo n b)
def nF (f : Bool) (hi lo n b : Int) : Bool := f && (mulHi hi b == 0) && (nBy hi lo n b == 0)
def numGo (b : Int) : List UInt8 → Int → Int → Bool → Int × Int × Bool × Bool
  | [], hi, lo, f => (hi, lo, f, true)
  | c :: r, hi, lo, f => if b ≤ worthI c.toNat then (0, 0, false, false) else numGo b r (nHi hi lo (worthI c.toNat) b) (nLo lo (worthI c.toNat) b) (nF f hi lo (worthI c.toNat) b)
def numAll (b : Int) (l : List UInt8) : Int × Int × Bool × Bool :=
  match l with
  | [] => (0, 0, false, false)
  | [c] => numGo b [c] 0 0 true
  | c :: r => if c = 48 then (0, 0, false, false) else numGo b (c :: r) 0 0 true
def value_number.f (a0 : ByteArray) (a1 : Int) : Option (Int × Int × Bool × Bool) :=
  if a0.size ≤ 140737488351232 ∧ 2 ≤ a1 ∧ a1 ≤ 16 then some (numAll a1 a0.data.toList) else none
theorem mulHi_in {x b : Int} (hx : inU x = true) (h1 : 2 ≤ b) (h2 : b ≤ 16) : inU (mulHi x b) = true := by
  have := inU_lo hx; have := inU_hi hx
  have l0 : 0 ≤ x * b := Int.mul_nonneg (by omega) (by omega)
  have l1 : x * b ≤ x * 16 := Int.mul_le_mul_of_nonneg_left h2 (by omega)
  unfold inU mulHi; simp; omega
theorem mulLo_in (x b : Int) : inU (mulLo x b) = true := by
  unfold inU mulLo; simp; omega
theorem addHi_in (x y c : Int) : inU (addHi x y c) = true := by unfold inU addHi; simp; omega
theorem small_in {b : Int} (h1 : 0 ≤ b) (h2 : b ≤ 100) : inU b = true := by unfold inU; simp; omega
def NumRel (w : World) (s : ByteArray) (b : Int) (r : Int × Int × Bool × Bool) (k : Nat) (hi lo : Int) (f : Bool) (wr : World) : Prop :=
  wr.heap[w.heap.size]? = some (.cells #[.int .u64 hi, .int .u64 lo] 24 (0, 0)) ∧ wr.heap[w.heap.size + 1]? = some (.stringIter s k) ∧ inU hi = true ∧ inU lo = true ∧ numGo b (s.data.toList.drop k) hi lo f = r ∧ Below w.heap.size w wr
theorem worth_dec (s : ByteArray) (k : Nat) (h : k < s.size) : worthI ((Utf8.decode s k).1 : Int) = worthI ((s[k]'h).toNat : Int) := by
  by_cases ha : (s[k]'h).toNat < 128
  · rw [decode_ascii s k h ha]
  · have h1 := (decode_high s k h (by omega)).1
    have e : ∀ c : Int, 128 ≤ c → worthI c = 99 := fun c hc => by unfold worthI; rw [if_neg (by omega), if_neg (by omega)]
    rw [e _ (by omega), e _ (by omega)]
theorem dec_width (s : ByteArray) (k : Nat) (h : k < s.size) (hw : worthI ((Utf8.decode s k).1 : Int) < 99) : (Utf8.decode s k).2 = 1 := by
  by_cases ha : (s[k]'h).toNat < 128
  · rw [decode_ascii s k h ha]
  · have h1 := (decode_high s k h (by omega)).1
    have e : worthI ((Utf8.decode s k).1 : Int) = 99 := by unfold worthI; rw [if_neg (by omega), if_neg (by omega)]
    omega
theorem drop_consA (s : ByteArray) (k : Nat) (h : k < s.size) : s.data.toList.drop k = (s[k]'h) :: s.data.toList.drop (k + 1) := by
  rw [List.drop_eq_getElem_cons (by rw [data_length]; exact h)]; rfl
theorem blk_farO {w : World} {g : Nat} {o : Obj} (h : w.heap[g]? = some o) (p : Addr) (hp : g ≠ p.block) (u : Value) : (w.setCell p u).heap[g]? = some o := (Below.heap_setCell w p u g hp).trans h
theorem iterPos_of {w : World} {g : Nat} {s : ByteArray} {p : Nat} (h : w.heap[g]? = some (.stringIter s p)) : w.iterPos g = p := by simp [World.iterPos, h]
set_option maxHeartbeats 8000000 in
set_option maxRecDepth 100000 in
theorem number_go (a0 : ByteArray) (a1 r1 r2 : Int) (r3 r4 : Bool) (w : World) (hs : a0.size ≤ 140737488351232) (h1 : 2 ≤ a1) (h2 : a1 ≤ 16)
    (he : a0.toList.isEmpty = false) (hpos : 0 < a0.size) (hz : ¬ 1 < a0.size ∨ (1 < a0.size ∧ (((a0[0]'hpos).toNat : Int) == 48) = false)) (h : numGo a1 a0.data.toList 0 0 true = (r1, r2, r3, r4)) :
    Calls Tryd.prog 44 #[.string a0, .int .u64 a1] w fun e w' => e = .returned (.tuple #[.agg #[.int .u64 r1, .int .u64 r2], .bool r3, .bool r4]) ∧ Below w.heap.size w w' := by
  have hu24 := Tryd.underlying24
  have H := Aside0.mk h
  clear h
  obtain hz | ⟨hz, hz0⟩ := hz
  all_goals
    go_enter Tryd.func44, Tryd.ntmps44
    go_wp2_with fail
    go_loopw [5] (fun fv wr => ∃ (k : Nat) (hi lo : Int) (f : Bool), fv = .bool f ∧ k ≤ a0.size ∧ NumRel w a0 a1 (r1, r2, r3, r4) k hi lo f wr) (fun _ wr => a0.size - wr.iterPos (w.heap.size + 1))
    case atStart =>
      refine ⟨0, 0, 0, true, rfl, by omega, blk_alloc (blk_new _ _) _, heap_alloc2_new _ _ _, rfl, rfl, H.out, below_alloc (below_alloc (Below.refl w.heap.size w) _) _⟩
    case round =>
      obtain ⟨k, hi, lo, f, rfl, hk, b4, b5, u1, u2, hr, hb⟩ := hrel
      have hip : wr.iterPos (w.heap.size + 1) = k := by simp [World.iterPos, b5]
      have HIP := Aside0.mk hip
      clear hip
      by_cases hlt : k < a0.size
      · rw [drop_consA a0 k hlt, numGo, ← worth_dec a0 k hlt] at hr
        have hnx := run_next_blk (P := Tryd.prog) wr (w.heap.size + 1) a0 k 0 b5 hlt
        have hd0 : (0 : Int) ≤ ((Utf8.decode a0 k).1 : Int) := by omega
        have hd1 : ((Utf8.decode a0 k).1 : Int) < 2147483648 := by have := decode_le a0 k; omega
        have hwf := Aside0.mk (worth_f _ hd0 hd1)
        have hdw := Aside0.mk (dec_width a0 k hlt)
        have hwb := worth_bd ((Utf8.decode a0 k).1 : Int)
        generalize ((Utf8.decode a0 k).1 : Int) = d at *
        generalize (Utf8.decode a0 k).2 = p at *
        generalize worthI d = n at *
        have b4' : (setIter wr (w.heap.size + 1) a0 (k + p)).heap[w.heap.size]? = some (.cells #[.int .u64 hi, .int .u64 lo] 24 (0, 0)) := (setIter_far (by omega)).trans b4
        have b5' := setIter_at (s := a0) (p := k + p) b5
        have hb' := below_setIter hb a0 (k + p) (g := w.heap.size + 1) (by omega)
        clear b4 b5 hb
        generalize setIter wr (w.heap.size + 1) a0 (k + p) = wq at *
        have hcz0 : wq.cell? ⟨w.heap.size, 0, none⟩ = some (.int .u64 hi) := (blk_cell b4' 0).trans rfl
        have hcz1 : wq.cell? ⟨w.heap.size, 1, none⟩ = some (.int .u64 lo) := (blk_cell b4' 1).trans rfl
        have hfz0 := blk_frozen b4' 0
        have hfz1 := blk_frozen b4' 1
        have B4 := Aside0.mk b4'
        have B5 := Aside0.mk b5'
        have HB := Aside0.mk hb'
        clear b4' b5' hb'
        by_cases hge : a1 ≤ n
        · rw [if_pos hge] at hr
          simp only [Prod.mk.injEq] at hr
          obtain ⟨rfl, rfl, rfl, rfl⟩ := hr
          have t1 : decide (a1 ≤ n) = true := decide_eq_true hge
          clear hge
          go_wp2_with fail
          refine (value_worth.calls 1 d n _ hwf.out).mono ?_
          rintro e w' ⟨rfl, ⟨nd, rfl⟩⟩
          go_wp2
          refine bodyPost_ret (results_ctt rfl _ _ w.heap.size 24 #[.int .u64 0, .int .u64 0] (0, 0) _ rfl (blk_put (cs := #[_, _]) (blk_put (cs := #[_, _]) (blk_drewN B4.out _) 0 _ rfl) 1 _ rfl) Tryd.underlying24 rfl (by kernel_rfl)) rfl ?_
          exact ⟨rfl, below_set (below_set (pw_below_drewN HB.out _) (by simp)) (by simp)⟩
        · rw [if_neg hge] at hr
          have t1 : decide (a1 ≤ n) = false := decide_eq_false hge
          have hn99 : n < 99 := by omega
          obtain rfl : 1 = p := (hdw.out hn99).symm
          have hb1 : inU a1 = true := small_in (by omega) (by omega)
          have hn1 : inU n = true := small_in hwb.1 (by omega)
          have m1 := Aside0.mk (mul_f lo a1 u2 hb1)
          have m2 := Aside0.mk (mul_f hi a1 u1 hb1)
          have cb := addCz_bd (mulLo_in lo a1) hn1 (Int.le_refl 0) (by decide)
          have r57 := fun w => run_add57 (mulLo lo a1) n 0 (inU_lo (mulLo_in lo a1)) (inU_lo hn1) (Int.le_refl 0) (by decide) w
          have r57' := fun w => run_add57 (mulLo hi a1) (mulHi lo a1) (nCy lo n a1) (inU_lo (mulLo_in hi a1)) (inU_lo (mulHi_in u2 h1 h2)) cb.1 cb.2 w
          have v1 := Aside0.mk (addHi_in (mulLo hi a1) (mulHi lo a1) (nCy lo n a1))
          have v2 := Aside0.mk (addHi_in (mulLo lo a1) n 0)
          have HR := Aside0.mk hr
          have e1 : nHi hi lo n a1 = addHi (mulLo hi a1) (mulHi lo a1) (nCy lo n a1) := rfl
          have e2 : nLo lo n a1 = addHi (mulLo lo a1) n 0 := rfl
          have e3 : nCy lo n a1 = addCz (mulLo lo a1) n 0 := rfl
          have e4 : nBy hi lo n a1 = addCz (mulLo hi a1) (mulHi lo a1) (nCy lo n a1) := rfl
          have e5 : nF f hi lo n a1 = (f && (mulHi hi a1 == 0) && (addCz (mulLo hi a1) (mulHi lo a1) (nCy lo n a1) == 0)) := rfl
          rw [e1, e2, e5] at HR
          rw [← e3] at r57
          clear e1 e2 e3 e4 e5 hr hge cb hdw hwb
          generalize addHi (mulLo hi a1) (mulHi lo a1) (nCy lo n a1) = hi' at *
          generalize addHi (mulLo lo a1) n 0 = lo' at *
          generalize addCz (mulLo hi a1) (mulHi lo a1) (nCy lo n a1) = by' at *
          generalize nCy lo n a1 = cy at *
          generalize mulHi hi a1 = ov at *
          generalize mulLo hi a1 = ml1 at *
          generalize mulHi lo a1 = mh2 at *
          generalize mulLo lo a1 = ml2 at *
          clear hn1 hb1 u1 u2
          have HK := Aside0.mk hlt
          cases f
          all_goals cases q1 : (ov == 0)
          all_goals cases q2 : (by' == 0)
          all_goals
            rw [q1, q2] at HR
            go_wp2_with fail
            refine (value_worth.calls 1 d n _ hwf.out).mono ?_
            rintro e w' ⟨rfl, ⟨nd, rfl⟩⟩
            go_wp2_with fail
            refine (bits_Mul64.calls lo a1 mh2 ml2 _ m1.out).mono ?_
            rintro e w' ⟨rfl, ⟨nd2, rfl⟩⟩
            go_wp2_with fail
            refine (bits_Mul64.calls hi a1 ov ml1 _ m2.out).mono ?_
            rintro e w' ⟨rfl, ⟨nd3, rfl⟩⟩
            go_wp2
            have B5' := Aside0.mk (blk_farO (blk_farO (blk_drewN B5.out (nd + nd2 + nd3)) ⟨w.heap.size, 0, none⟩ (by simp) (.int .u64 hi')) ⟨w.heap.size, 1, none⟩ (by simp) (.int .u64 lo'))
            go_roundw
            case measure =>
              rw [iterPos_of B5'.out, HIP.out]
              have := HK.out
              omega
            case rel =>
              refine ⟨k + 1, hi', lo', _, rfl, HK.out, ?_, B5'.out, v1.out, v2.out, HR.out, ?_⟩
              · exact blk_put (cs := #[_, _]) (blk_put (cs := #[_, _]) (blk_drewN B4.out _) 0 _ rfl) 1 _ rfl
              · exact below_set (below_set (pw_below_drewN HB.out _) (Nat.le_refl _)) (Nat.le_refl _)
      · obtain rfl : a0.size = k := by omega
        have hnx := run_next_blk_end (P := Tryd.prog) wr (w.heap.size + 1) a0 a0.size 0 b5 hlt
        rw [List.drop_eq_nil_of_le (by rw [data_length]; omega), numGo] at hr
        simp only [Prod.mk.injEq] at hr
        obtain ⟨rfl, rfl, rfl, rfl⟩ := hr
        have hcz0 : wr.cell? ⟨w.heap.size, 0, none⟩ = some (.int .u64 hi) := (blk_cell b4 0).trans rfl
        have hcz1 : wr.cell? ⟨w.heap.size, 1, none⟩ = some (.int .u64 lo) := (blk_cell b4 1).trans rfl
        have hfz0 := blk_frozen b4 0
        have hfz1 := blk_frozen b4 1
        have B4 := Aside0.mk b4
        have HB := Aside0.mk hb
        clear b4 b5 hb u1 u2
        go_wp2
        refine bodyPost_ret (results_ctt rfl _ _ w.heap.size 24 #[.int .u64 hi, .int .u64 lo] (0, 0) _ rfl (blk_put (cs := #[_, _]) (blk_put (cs := #[_, _]) B4.out 0 _ rfl) 1 _ rfl) Tryd.underlying24 rfl (by kernel_rfl)) rfl ?_
        exact ⟨rfl, below_set (below_set HB.out (Nat.le_refl _)) (Nat.le_refl _)⟩
set_option maxHeartbeats 8000000 in
set_option maxRecDepth 100000 in
theorem number_no (a0 : ByteArray) (a1 : Int) (w : World) (hs : a0.size ≤ 140737488351232)
    (hz : a0.toList.isEmpty = true ∨ (a0.toList.isEmpty = false ∧ 1 < a0.size ∧ ∃ hpos : 0 < a0.size, (((a0[0]'hpos).toNat : Int) == 48) = true)) :
    Calls Tryd.prog 44 #[.string a0, .int .u64 a1] w fun e w' => e = .returned (.tuple #[.agg #[.int .u64 0, .int .u64 0], .bool false, .bool false]) ∧ Below w.heap.size w w' := by
  have hu24 := Tryd.underlying24
  rcases hz with hz | ⟨hz, hz1, hpos, hz2⟩
  all_goals
    go_enter Tryd.func44, Tryd.ntmps44
    go_wp2
    refine bodyPost_ret (results_ctt rfl _ _ w.heap.size 24 #[.int .u64 0, .int .u64 0] (0, 0) _ rfl (blk_new _ _) Tryd.underlying24 rfl (by kernel_rfl)) rfl ?_
    exact ⟨rfl, below_alloc (Below.refl w.heap.size w) _⟩
theorem value_number.calls (a0 : ByteArray) (a1 r1 r2 : Int) (r3 r4 : Bool) (w : World) (h : value_number.f a0 a1 = some (r1, r2, r3, r4)) :
    Calls Tryd.prog 44 #[.string a0, .int .u64 a1] w fun e w' => e = .returned (.tuple #[.agg #[.int .u64 r1, .int .u64 r2], .bool r3, .bool r4]) ∧ Below w.heap.size w w' := by
  unfold value_number.f at h
  split at h
  case isFalse => exact absurd h (by simp)
  rename_i hc
  obtain ⟨hs, h1, h2⟩ := hc
  have h := Option.some.inj h
  have hd := data_length a0
  have htl : a0.toList = a0.data.toList := by simp [ByteArray.toList_eq]
  cases hl : a0.data.toList with
  | nil =>
    rw [hl] at h
    simp only [numAll, Prod.mk.injEq] at h
    obtain ⟨rfl, rfl, rfl, rfl⟩ := h
    exact number_no a0 a1 w hs (.inl (by rw [htl, hl]; rfl))
  | cons c r =>
    have hpos : 0 < a0.size := by rw [← hd, hl]; simp
    have hc0 : a0[0]'hpos = c := by
      have e : a0[0]'hpos = a0.data.toList[0]'(by rw [hd]; exact hpos) := rfl
      rw [e]; simp [hl]
    have he : a0.toList.isEmpty = false := by rw [htl, hl]; rfl
    rw [hl] at h
    cases r with
    | nil =>
      have h1s : ¬ 1 < a0.size := by rw [← hd, hl]; simp
      exact number_go a0 a1 r1 r2 r3 r4 w hs h1 h2 he hpos (.inl h1s) (by rw [hl]; exact h)
    | cons c2 r =>
      have h1s : 1 < a0.size := by rw [← hd, hl]; simp
      simp only [numAll] at h
      by_cases hz : c = 48
      · rw [if_pos hz] at h
        simp only [Prod.mk.injEq] at h
        obtain ⟨rfl, rfl, rfl, rfl⟩ := h
        exact number_no a0 a1 w hs (.inr ⟨he, h1s, hpos, by rw [hc0, hz]; rfl⟩)
      · rw [if_neg hz] at h
        refine number_go a0 a1 r1 r2 r3 r4 w hs h1 h2 he hpos (.inr ⟨h1s, ?_⟩) (by rw [hl]; exact h)
        rw [hc0]
        apply beq_eq_false_iff_ne.2
        intro e
        apply hz
        apply UInt8.toNat_inj.1
        show c.toNat = 48
        omega
end Go.Proofs.YtofnhgpiipmegaaDoor.PV
