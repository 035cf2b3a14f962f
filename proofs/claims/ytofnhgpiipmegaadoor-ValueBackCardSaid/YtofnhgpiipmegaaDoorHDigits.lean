/- value.digits: the digits of a value in the bases 2, 10, 16, from the lowest on, laid from the end of an array of 128. -/
import Derived.Test.YtofnhgpiipmegaaDoorHDiv
import Derived.Test.YtofnhgpiipmegaaDoorHLay
namespace Go.Proofs.YtofnhgpiipmegaaDoor.PV
open Go.RowKit Go.Proofs.YtofnhgpiipmegaaDoorW.PrintWords Go.Proofs.YtofnhgpiipmegaaDoorW.PrintLast Go.Proofs.YtofnhgpiipmegaaDoorW.PrintMore
set_option linter.unusedVariables false
set_option linter.unusedSimpArgs false
/-- A digit's byte. -/
def signI (n : Nat) : Int := signsL.getD n 0
def signN (n : Nat) : UInt8 := UInt8.ofNat (signI n).toNat
/-- The digits of v in the base b, ahead of acc; at most so many. -/
def dgs (b : Nat) : Nat → Nat → List Nat → List Nat
  | 0, _, acc => acc
  | f + 1, v, acc => if v / b = 0 then v % b :: acc else dgs b f (v / b) (v % b :: acc)
def value_digits.f (a0_0 a0_1 a1 : Int) : Option ByteArray :=
  if inU a0_0 = true ∧ inU a0_1 = true ∧ (a1 = 2 ∨ a1 = 10 ∨ a1 = 16) then some ⟨((dgs a1.toNat 128 (a0_0 * 18446744073709551616 + a0_1).toNat []).map signN).toArray⟩ else none
theorem div_all (hi lo b : Int) (hb : b = 2 ∨ b = 10 ∨ b = 16) (h0 : 0 ≤ hi) (h1 : hi < b) (l0 : 0 ≤ lo) (l1 : lo < 18446744073709551616) :
    bits_Div64.f 5 hi lo b = some ((hi * 18446744073709551616 + lo) / b, (hi * 18446744073709551616 + lo) % b) := by
  by_cases hz : hi = 0
  · subst hz
    unfold bits_Div64.f
    rw [if_neg (by omega), if_neg (by omega), if_pos rfl, tdiv_pos _ _ l0, Int.tmod_eq_emod_of_nonneg l0, wrapU_eq]
    congr 1
    have e : (0 * 18446744073709551616 + lo) = lo := by omega
    rw [e]
    rcases hb with rfl | rfl | rfl <;> (congr 1; omega)
  · rcases hb with rfl | rfl | rfl
    · exact div2 hi lo (by omega) h1 l0 l1
    · exact div10 hi lo (by omega) h1 l0 l1
    · exact div16 hi lo (by omega) h1 l0 l1
def dcells (k : Nat) (D : List Nat) : Array Value := (List.replicate (128 - k) (Value.int .u8 0) ++ D.map (fun n => Value.int .u8 (signI n))).toArray
theorem dcells_step (k : Nat) (D : List Nat) (h : D.length = k) (hk : k < 128) (n : Nat) : (dcells k D).setIfInBounds (127 - k) (.int .u8 (signI n)) = dcells (k + 1) (n :: D) := by
  apply Array.ext'
  simp only [dcells, Array.toList_setIfInBounds, List.map_cons]
  have e : 128 - k = (127 - k) + 1 := by omega
  rw [e, List.replicate_succ', List.append_assoc, List.set_append_right _ _ (by simp)]
  have e2 : 128 - (k + 1) = 127 - k := by omega
  rw [e2]; simp
theorem dcells_zero : Tryd.zeroCells72 = dcells 0 [] := by
  have e : dcells 0 [] = (List.replicate 128 (Value.int .u8 0)).toArray := by simp [dcells]
  rw [e]
  show Tryd.zeroCells72 = _
  kernel_rfl
theorem dcells_get (k : Nat) (D : List Nat) (h : D.length = k) (hk : k < 128) : (dcells k D)[127 - k]? = some (.int .u8 0) := by
  simp only [dcells, List.getElem?_toArray]
  rw [List.getElem?_append_left (by simp; omega), List.getElem?_replicate, if_pos (by omega)]
theorem sixteen (l : Nat) (b : Int) (hb : b = 2 ∨ b = 10 ∨ b = 16) (h : (l : Int) < b) : l < 16 := by omega
def DigRel (w : World) (b : Int) (R : List Nat) (k v : Nat) (hi lo : Int) (D : List Nat) (wr : World) : Prop :=
  wr.heap[w.heap.size]? = some (.cells #[.int .u64 hi, .int .u64 lo] 24 (0, 0)) ∧ wr.heap[w.heap.size + 1]? = some (.cells (dcells k D) 72 (0, 0)) ∧ D.length = k ∧ inU hi = true ∧ inU lo = true ∧ hi * 18446744073709551616 + lo = (v : Int) ∧ v < 2 ^ (128 - k) ∧ dgs b.toNat (128 - k) v D = R ∧ Below w.heap.size w wr
theorem divN (hi lo a v : Int) (hv : hi * 18446744073709551616 + lo = v) (ha : 0 < a) :
    v / a = hi / a * 18446744073709551616 + (hi % a * 18446744073709551616 + lo) / a ∧ v % a = (hi % a * 18446744073709551616 + lo) % a := by
  have e : v = a * (hi / a * 18446744073709551616) + (hi % a * 18446744073709551616 + lo) := by
    have h := Int.mul_ediv_add_emod hi a
    rw [← hv]
    conv => lhs; rw [← h]
    rw [Int.add_mul, Int.mul_assoc, Int.add_assoc]
  constructor
  · rw [e, Int.add_comm, Int.add_mul_ediv_left _ _ (by omega), Int.add_comm]
  · rw [e, Int.add_comm, Int.add_mul_emod_self_left]
theorem dig_next (hi lo a q : Int) (v l k : Nat) (hv : hi * 18446744073709551616 + lo = (v : Int)) (ha : 2 ≤ a) (ha2 : a ≤ 16) (hh : inU hi = true) (hlo : inU lo = true)
    (hl : (hi % a * 18446744073709551616 + lo) % a = (l : Int)) (hq : (hi % a * 18446744073709551616 + lo) / a = q) (hb : v < 2 ^ (128 - k)) (hk : k < 128) :
    v % a.toNat = l ∧ hi / a * 18446744073709551616 + q = ((v / a.toNat : Nat) : Int) ∧ inU (hi / a) = true ∧ inU q = true ∧ v / a.toNat < 2 ^ (128 - (k + 1)) := by
  obtain ⟨h1, h2⟩ := divN hi lo a v hv (by omega)
  obtain ⟨n, rfl⟩ : ∃ n : Nat, a = n := ⟨a.toNat, by omega⟩
  rw [Int.toNat_natCast]
  have m0 : 0 ≤ hi % (n : Int) := Int.emod_nonneg _ (by omega)
  have m1 : hi % (n : Int) < n := Int.emod_lt_of_pos _ (by omega)
  have a0 := inU_lo hh
  have a1 := inU_hi hh
  have b0 := inU_lo hlo
  have b1 := inU_hi hlo
  refine ⟨?_, ?_, ?_, ?_, ?_⟩
  · have : ((v % n : Nat) : Int) = l := by rw [← hl, ← h2]; simp
    omega
  · rw [← hq, ← h1]; simp
  · have c1 := Int.ediv_nonneg a0 (show (0 : Int) ≤ n by omega)
    have c2 : hi / (n : Int) ≤ hi := Int.ediv_le_self _ a0
    unfold inU; simp; omega
  · have c0 : 0 ≤ hi % (n : Int) * 18446744073709551616 + lo := by omega
    have c1 := Int.ediv_nonneg c0 (show (0 : Int) ≤ n by omega)
    have c2 : (hi % (n : Int) * 18446744073709551616 + lo) / n < 18446744073709551616 := Int.ediv_lt_of_lt_mul (by omega) (by
      have : hi % (n : Int) * 18446744073709551616 ≤ ((n : Int) - 1) * 18446744073709551616 := Int.mul_le_mul_of_nonneg_right (by omega) (by decide)
      rw [Int.mul_comm 18446744073709551616]; omega)
    rw [← hq]
    unfold inU; simp; omega
  · have e : 2 ^ (128 - k) = 2 * 2 ^ (128 - (k + 1)) := by
      rw [show 128 - k = (128 - (k + 1)) + 1 from by omega, Nat.pow_succ]; omega
    have c : v / n ≤ v / 2 := Nat.div_le_div_left (by omega) (by omega)
    omega
theorem run_slice72 (g k : Nat) (hk : k < 128) (w : World) :
    (Instr.sliceAt 72 (.pointer (some ⟨g, 0, none⟩)) (some (.int .i64 (128 - (k : Int) - 1))) none none).run Tryd.prog w = .ok (.slice (some ⟨g, 127 - k, none⟩) (k + 1) (k + 1)) w := by
  have e1 : (128 - (k : Int) - 1).toNat = 127 - k := by omega
  have e2 : 0 ≤ 128 - (k : Int) - 1 := by omega
  have e3 : 128 - (k : Int) - 1 ≤ 128 := by omega
  have e4 : ¬ 128 = 127 - k := by omega
  have e7 : 1 ≤ 128 - (k : Int) := by omega
  have e5 : 128 - (127 - k) = k + 1 := by omega
  have hsz : (sizeOf 5).run Tryd.prog w = .ok 1 w := by kernel_rfl
  have e6 : (Addr.add ⟨g, 0, none⟩ ((127 - k) * 1)) = ⟨g, 127 - k, none⟩ := by rw [Nat.mul_one]; exact add_plain _ _
  simp [Instr.sliceAt, run_underlying Tryd.underlying72, Instr.sureAddr, Instr.sliceBounds, Instr.sliceBound, asIntOf, e1, e2, e3, e4, e5, e7, hsz, Sem.run_bind]
  simpa using e6
theorem dig_reads (W : World) (g k : Nat) (D : List Nat) (h : W.heap[g]? = some (.cells (dcells k D) 72 (0, 0))) (hD : D.length = k) (hk : k ≤ 128) :
    ReadsInt W .u8 (some ⟨g, 128 - k, none⟩) k (D.map signI) := by
  refine ⟨by simp [hD], by omega, fun _ => ⟨_, rfl, fun j hj => ?_⟩⟩
  rw [Addr.add_lit, blk_cell h]
  simp only [dcells, List.getElem?_toArray]
  rw [List.getElem?_append_right (by simp)]
  have e : 128 - k + j - (List.replicate (128 - k) (Value.int .u8 0)).length = j := by simp
  rw [e]
  simp [List.getElem?_eq_getElem (show j < D.length by omega), List.getD]
theorem quietD {P : Program} {f : FuncId} {args : Array Value} {w : World} {v : Value} (h : Calls P f args w fun e w' => e = .returned v ∧ Drawn0 w w') :
    Calls P f args w fun e w' => e = .returned v ∧ ∃ m, w' = w.drewN m := h.mono fun _ _ ⟨he, hm⟩ => ⟨he, hm.out⟩
set_option maxHeartbeats 8000000 in
set_option maxRecDepth 100000 in
theorem value_digits.calls (a0_0 a0_1 a1 : Int) (r : ByteArray) (w : World) (hG : GlobalsAt w) (h : value_digits.f a0_0 a0_1 a1 = some r) :
    Calls Tryd.prog 40 #[.agg #[.int .u64 a0_0, .int .u64 a0_1], .int .u64 a1] w fun e w' => e = .returned (.string r) ∧ Below w.heap.size w w' := by
  have hu24 := Tryd.underlying24
  unfold value_digits.f at h
  split at h
  case isFalse => exact absurd h (by simp)
  rename_i hc
  obtain ⟨u1, u2, hb⟩ := hc
  have h := Option.some.inj h
  have HG := Aside0.mk hG
  have HBs := Aside0.mk hb
  have h1lo := inU_lo u1
  have h2lo := inU_lo u2
  have h1hi := Aside0.mk (inU_hi u1)
  have h2hi := Aside0.mk (inU_hi u2)
  have U1 := Aside0.mk u1
  have U2 := Aside0.mk u2
  obtain ⟨R, hR⟩ : ∃ R, dgs a1.toNat 128 (a0_0 * 18446744073709551616 + a0_1).toNat [] = R := ⟨_, rfl⟩
  rw [hR] at h
  have HR := Aside0.mk hR
  have H := Aside0.mk h
  have hb0 : (a1 == 0) = false := by rcases hb with rfl | rfl | rfl <;> rfl
  clear hG h hR hb u1 u2
  go_enter Tryd.func40, Tryd.ntmps40
  go_wp2_with fail
  go_loopw [6] (fun at_ wr => ∃ (k v : Nat) (hi lo : Int) (D : List Nat), k < 128 ∧ at_ = .int .i64 (128 - k) ∧ DigRel w a1 R k v hi lo D wr) (fun at_ _ => (intOf at_).toNat)
  case atStart =>
    refine ⟨0, (a0_0 * 18446744073709551616 + a0_1).toNat, a0_0, a0_1, [], by omega, rfl, ?_, ?_, rfl, U1.out, U2.out, ?_, ?_, HR.out, ?_⟩
    · exact blk_alloc (blk_new _ _) _
    · rw [← dcells_zero]; exact heap_alloc2_new _ _ _
    · omega
    · have := h1hi.out; have := h2hi.out
      have e : (2 : Nat) ^ (128 - 0) = 340282366920938463463374607431768211456 := by decide
      rw [e]; omega
    · exact below_alloc (below_alloc (Below.refl w.heap.size w) _) _
  case round =>
    obtain ⟨k, v, hi, lo, D, hk, rfl, b2, b5, hD, u1, u2, hv, hvb, hd, hb⟩ := hrel
    have hge : (0 : Int) ≤ 127 - (k : Int) := by omega
    have hlo0 := inU_lo u2
    have hhi0 := inU_lo u1
    have hlo1 := inU_hi u2
    have hhi1 := inU_hi u1
    have hbp : 2 ≤ a1 ∧ a1 ≤ 16 := by rcases HBs.out with rfl | rfl | rfl <;> decide
    have hm0 : 0 ≤ hi % a1 := Int.emod_nonneg _ (by omega)
    have hm1 : hi % a1 < a1 := Int.emod_lt_of_pos _ (by omega)
    have hdiv := Aside0.mk (div_all (hi % a1) lo a1 HBs.out hm0 hm1 hlo0 hlo1)
    obtain ⟨l, hl⟩ : ∃ l : Nat, (hi % a1 * 18446744073709551616 + lo) % a1 = l := ⟨((hi % a1 * 18446744073709551616 + lo) % a1).toNat, by have := Int.emod_nonneg (hi % a1 * 18446744073709551616 + lo) (show a1 ≠ 0 by omega); omega⟩
    have hl16 : l < 16 := sixteen l a1 HBs.out (by rw [← hl]; exact Int.emod_lt_of_pos _ (by omega))
    rw [hl] at hdiv
    have hg : wr.cell? ⟨0, l, none⟩ = some (.int .u8 (signI l)) := HG.out.below hb l hl16
    have hcz0 : wr.cell? ⟨w.heap.size, 0, none⟩ = some (.int .u64 hi) := (blk_cell b2 0).trans rfl
    have hcz1 : wr.cell? ⟨w.heap.size, 1, none⟩ = some (.int .u64 lo) := (blk_cell b2 1).trans rfl
    have hfz0 := blk_frozen b2 0
    have hfz1 := blk_frozen b2 1
    have hcz5 : wr.cell? ⟨w.heap.size + 1, 127 - k, none⟩ = some (.int .u8 0) := (blk_cell b5 _).trans (dcells_get k D hD hk)
    have hfz5 := blk_frozen b5 (127 - k)
    obtain ⟨q, hq⟩ : ∃ q, (hi % a1 * 18446744073709551616 + lo) / a1 = q := ⟨_, rfl⟩
    rw [hq] at hdiv
    have td : hi.tdiv a1 = hi / a1 := tdiv_pos _ _ hhi0
    have tm : hi.tmod a1 = hi % a1 := Int.tmod_eq_emod_of_nonneg hhi0
    have hwd : IntKind.u64.wrap (hi / a1) = hi / a1 := by
      have h1 := Int.ediv_nonneg hhi0 (show 0 ≤ a1 by omega)
      have h2 : hi / a1 ≤ hi := Int.ediv_le_self _ hhi0
      rw [wrapU_eq]; omega
    have HU := And.intro u1 u2
    have HL := Aside0.mk hl
    have HQ := Aside0.mk hq
    have HD := Aside0.mk hD
    have HV := Aside0.mk hv
    have HVB := Aside0.mk hvb
    have HDG := Aside0.mk hd
    have B2 := Aside0.mk b2
    have B5 := Aside0.mk b5
    have HB := Aside0.mk hb
    clear hl hq hD hv hvb hd b2 b5 hb u1 u2 hlo1 hhi1 hm0 hm1
    go_wp2_with fail
    go_quiet ((go_at_call 64; exact Calls.quiet_of (quietD (bits_Div64.calls 5 (hi % a1) lo a1 q l _ hdiv.out))))
    have hsz0 : 0 < w.heap.size := World.block_lt_of_cell? w _ (HG.out 0 (by decide))
    have c2 := Aside0.mk (blk_put (cs := #[_, _]) (blk_put (cs := #[_, _]) (blk_drewN B2.out nq) 0 (.int .u64 (hi / a1)) rfl) 1 (.int .u64 q) rfl)
    have c5 := Aside0.mk (blk_far (blk_far (blk_drewN B5.out nq) (p := ⟨w.heap.size, 0, none⟩) (by simp) (.int .u64 (hi / a1))) (p := ⟨w.heap.size, 1, none⟩) (by simp) (.int .u64 q))
    have cB := Aside0.mk (below_set (g := w.heap.size) (j := 1) (v := .int .u64 q) (below_set (g := w.heap.size) (j := 0) (v := .int .u64 (hi / a1)) (pw_below_drewN HB.out nq) (Nat.le_refl _)) (Nat.le_refl _))
    obtain ⟨W2, hW2⟩ : ∃ W2, ((wr.drewN nq).setCell ⟨w.heap.size, 0, none⟩ (.int .u64 (hi / a1))).setCell ⟨w.heap.size, 1, none⟩ (.int .u64 q) = W2 := ⟨_, rfl⟩
    rw [hW2] at c2 c5 cB
    have hg2 : W2.cell? ⟨0, l, none⟩ = some (.int .u8 (signI l)) := HG.out.below cB.out l hl16
    have e5 : 128 - k - 1 = 127 - k := by omega
    have hc5 : W2.cell? ⟨w.heap.size + 1, 127 - k, none⟩ = some (.int .u8 0) := (blk_cell c5.out _).trans (dcells_get k D HD.out hk)
    have hf5 := blk_frozen c5.out (127 - k)
    have hc20 : W2.cell? ⟨w.heap.size, 0, none⟩ = some (.int .u64 (hi / a1)) := (blk_cell c2.out 0).trans rfl
    have hc21 : W2.cell? ⟨w.heap.size, 1, none⟩ = some (.int .u64 q) := (blk_cell c2.out 1).trans rfl
    clear hcz5 hfz5 hg
    obtain ⟨n1, n2, n3, n4, n5⟩ := dig_next hi lo a1 q v l k HV.out hbp.1 hbp.2 HU.1 HU.2 HL.out HQ.out HVB.out hk
    have c5' := blk_set c5.out (127 - k) (.int .u8 (signI l))
    rw [dcells_step k D HD.out hk] at c5'
    have hsl := fun w' => run_slice72 (w.heap.size + 1) k hk w'
    have hcv := string_of_reads (P := Tryd.prog) (c := k + 1) Tryd.underlying50 Tryd.underlying5 Tryd.underlying9 (dig_reads _ _ _ _ c5' (by simp [HD.out]) (by omega))
    rw [show 128 - (k + 1) = 127 - k from by omega] at hcv
    have N1 := Aside0.mk n1
    have N2 := Aside0.mk n2
    have N3 := Aside0.mk n3
    have N4 := Aside0.mk n4
    have N5 := Aside0.mk n5
    have C5 := Aside0.mk c5'
    clear n1 n2 n3 n4 n5 c5'
    have hdg := HDG.out
    rw [show 128 - k = (128 - (k + 1)) + 1 from by omega, dgs] at hdg
    have hmeas : (intOf (Value.int .i64 (128 - (k : Int) - 1))).toNat < (intOf (Value.int .i64 (128 - (k : Int)))).toNat := by simp [intOf]; omega
    have HMS := Aside0.mk hmeas
    clear hmeas
    by_cases hv0 : v / a1.toNat = 0
    · rw [if_pos hv0, N1.out] at hdg
      have z1 : hi / a1 = 0 := by have := N2.out; have := inU_lo N3.out; have := inU_lo N4.out; rw [hv0] at *; omega
      have z2 : q = 0 := by have := N2.out; have := inU_lo N3.out; have := inU_lo N4.out; rw [hv0] at *; omega
      have HF := Aside0.mk (show strOfNums ((l :: D).map signI) = r by
        rw [← H.out, ← hdg]; simp [strOfNums, signN])
      clear hv0 hdg N1 N2 N3 N4 N5 td tm hwd hdiv HL HQ HV
      generalize hi / a1 = p at *
      subst z1
      subst z2
      go_wp2
      go_ret
      exact ⟨by rw [← HF.out]; rfl, below_set cB.out (Nat.le_succ _)⟩
    · rw [if_neg hv0, N1.out] at hdg
      have hk2 : k + 1 < 128 := by
        rcases Nat.lt_or_ge (k + 1) 128 with h9 | h9
        · exact h9
        · exfalso
          have h8 := N5.out
          rw [show 128 - (k + 1) = 0 from by omega, Nat.pow_zero] at h8
          generalize v / a1.toNat = tt at h8 hv0
          omega
      have hne : ¬ (hi / a1 = 0 ∧ q = 0) := by
        rintro ⟨z1, z2⟩
        have := N2.out
        rw [z1, z2] at this
        omega
      have HDG2 := Aside0.mk hdg
      have HK2 := Aside0.mk hk2
      have HD2 := Aside0.mk (show (l :: D).length = k + 1 by simp [HD.out])
      have e9 : (128 : Int) - (k : Int) - 1 = 128 - ((k + 1 : Nat) : Int) := by omega
      have E9 := Aside0.mk e9
      have C2 := Aside0.mk (blk_far c2.out (p := ⟨w.heap.size + 1, 127 - k, none⟩) (by simp) (.int .u8 (signI l)))
      have CB := Aside0.mk (below_set (g := w.heap.size + 1) (j := 127 - k) (v := .int .u8 (signI l)) cB.out (Nat.le_succ _))
      clear hv0 hdg td tm hwd hdiv HL HQ HV hk2 e9
      generalize hi / a1 = p at *
      by_cases hp : p = 0
      · have hq0 : ¬ q = 0 := fun z => hne ⟨hp, z⟩
        clear hne
        subst hp
        go_wp2
        exact ⟨⟨k + 1, v / a1.toNat, 0, q, l :: D, HK2.out, by rw [E9.out], C2.out, C5.out, HD2.out, N3.out, N4.out, N2.out, N5.out, HDG2.out, CB.out⟩, HMS.out⟩
      · clear hne
        go_wp2
        exact ⟨⟨k + 1, v / a1.toNat, p, q, l :: D, HK2.out, by rw [E9.out], C2.out, C5.out, HD2.out, N3.out, N4.out, N2.out, N5.out, HDG2.out, CB.out⟩, HMS.out⟩
end Go.Proofs.YtofnhgpiipmegaaDoor.PV
