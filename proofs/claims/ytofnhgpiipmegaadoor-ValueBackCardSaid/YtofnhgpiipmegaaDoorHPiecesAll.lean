/- value.pieces: the numbers between the signs of a text, as bytes (a loop over strings.SplitSeq whose body may return). -/
import Derived.RangeFuncFrom
import Derived.RangeFuncBox
import Derived.RangeFuncCalls
import Derived.Shelf.Strings.Search3
import Derived.RangeFuncNested
import Derived.RangeFuncBound
import Derived.RangeFuncLeaves
import Derived.Shelf.RegionOpen
import Derived.OwnWalkIn
import Derived.TacticsInMore
import Derived.LoopNIn
import Derived.LoopIn
import Derived.Test.YtofnhgpiipmegaaDoorPVx0
import Derived.Test.YtofnhgpiipmegaaDoorPVx1
import Derived.Test.YtofnhgpiipmegaaDoorPVx2
import Derived.Test.YtofnhgpiipmegaaDoorPVx3
import Derived.Test.YtofnhgpiipmegaaDoorPVx4
import Derived.Test.YtofnhgpiipmegaaDoorPVx5
import Derived.Test.YtofnhgpiipmegaaDoorHNumber
namespace Go.Proofs.YtofnhgpiipmegaaDoor.PV
open Go Go.RowKit
variable {F : Fence} {n : Nat} {P : Program}
/-- What the iterator's steps leave be: new blocks; of those that lay, block S alone is turned. -/
def BoxSteps {β : Type} (S : Nat) (J : β → World → Prop) : Prop := ∀ s W W' row, J s W → W.grownBy W' row → (∀ r, row = some r → r = S) → J s W'
/-- What the caller's invariant abides: those steps, and the turn of a block at or beyond B that is no cells. -/
def OwnBox {β : Type} (S B : Nat) (I : β → World → Prop) : Prop := ∀ s W W' row, I s W → W.grownBy W' row → (∀ r, row = some r → r = S ∨ (B ≤ r ∧ ∃ o : Obj, W.heap[r]? = some o ∧ o.isCells = false)) → I s W'
theorem OwnBox.putObj {β : Type} {S B : Nat} {I : β → World → Prop} (h : OwnBox S B I) {s : β} {W : World} {l : Nat} {o : Obj} (o' : Obj) (hs : I s W) (hB : B ≤ l) (hl : W.heap[l]? = some o) (ho : o.isCells = false) : I s (W.putObj l o') :=
  h s W _ (some l) hs (grownBy_putObj' W l o') (fun r e => by cases e; exact .inr ⟨hB, o, hl, ho⟩)
theorem OwnBox.alloc {β : Type} {S B : Nat} {I : β → World → Prop} (h : OwnBox S B I) {s : β} {W : World} (o : Obj) (hs : I s W) : I s (W.alloc o) :=
  h s W _ none hs (World.grownBy_alloc W o none) (fun r e => by cases e)
theorem OwnBox.and {β : Type} {S B : Nat} {I I' : β → World → Prop} (h : OwnBox S B I) (h' : OwnBox S B I') : OwnBox S B (fun s W => I s W ∧ I' s W) := fun s W W' row hs hg hr => ⟨h s W W' row hs.1 hg hr, h' s W W' row hs.2 hg hr⟩
theorem ownBox_below {β : Type} {S B n₀ : Nat} {w₀ : World} (hn : n₀ ≤ w₀.heap.size) (hB : n₀ ≤ B) (hS : n₀ ≤ S) : OwnBox S B (fun (_ : β) W => Below n₀ w₀ W) :=
  fun _ _ _ _ hs hg hr => hs.grown hg (Nat.le_trans hn hs.size) (fun k e => by rcases hr k e with h | h <;> omega)
/-- The iterator's word: each round keeps what Kp says; the steps turn S alone. -/
def SeqBox {α : Type} (F : Fence) (n : Nat) (P : Program) (g : Nat) (lb : Array Value) (encs : α → Array Value) (Kp : World → World → Prop) (S : Nat) (xs : List α) (w : World) : Prop :=
  ∀ (l : Nat) (J Jx : List α → World → Prop) (W : World), Below w.heap.size w W → BoxSteps S J → BoxSteps S Jx →
    (∀ pre x W1, J pre W1 → (pre ++ [x]) <+: xs → YieldAt F (n - 1) P l (encs x) W1 fun e W' =>
      (e = .returned (.bool true) ∧ J (pre ++ [x]) W' ∧ Kp W1 W') ∨ (e = .returned (.bool false) ∧ Jx (pre ++ [x]) W')) →
    J [] W →
    CallsIn F n P g (#[.func (.yield l) #[] #[]] ++ lb) W fun e W' => (∃ v, e = .returned v) ∧ (J xs W' ∨ (∃ pre, pre <+: xs ∧ Jx pre W'))
theorem wpIn_rangeFunc_box {α : Type} {g : Operand} {ps : Array Tmp} {assign body : Code} {Q : Exit → Act → World → Prop} {a : Act} {w : World}
    (hro : F.round = none) (h1 : 1 ≤ n) {gf : Nat} {lb : Array Value} (hg : a.eval g = .func (.func gf) #[] lb) (hFg : F.fn gf) (eg : ∀ args w, (callFunc gf args).run P w = .ok (.enter gf args) w)
    {encs : α → Array Value} {Kp : World → World → Prop} {S : Nat} {xs : List α} (hseq : SeqBox F (n - 1) P gf lb encs Kp S xs w) (hS : S < w.heap.size)
    (hKt : ∀ {A B C : World}, Kp A B → Kp B C → Kp A C) (hKb : ∀ (W : World) (l : Nat) (o' : Obj), w.heap.size ≤ l → Kp W (W.putObj l o')) (hps : ∀ x, (encs x).size = ps.size)
    (I : List α → World → Prop) (Ix : Code → List α → World → Prop) (hI : OwnBox S w.heap.size I) (hIx : ∀ c, OwnBox S w.heap.size (Ix c)) (h0 : I [] w) (a₁ : α → Act)
    (hassign : ∀ (l : Nat) (x : α) (W : World) (K : Act → World → Prop), K (a₁ x) W →
      assign.wpIn (F.inRound l) (n - 1 - 1) P (Exit.then K (fun _ _ _ => False)) { tmps := (ps.zip (encs x)).foldl (fun t (p, v) => t.setIfInBounds p v) a.tmps, defers := [] } W)
    (hbody : ∀ (l : Nat) (pre : List α) (x : α) (W : World), I pre W → (pre ++ [x]) <+: xs → body.wpIn (F.inRound l) (n - 1 - 1) P (ownPostK Kp I Ix (pre ++ [x]) W) (a₁ x) W)
    (hdone : ∀ (D : Nat) (W : World), w.heap.size ≤ D → I xs W → W.heap[D]? = some (.deferred (some [])) → Q .normal { a with defers := { target := .collected D, args := #[] } :: a.defers } W)
    (hstop : ∀ (D : Nat) (c : Code) (pre : List α) (W : World), w.heap.size ≤ D → pre <+: xs → Ix c pre W → W.heap[D]? = some (.deferred (some [])) → c.wpIn F n P Q { a with defers := { target := .collected D, args := #[] } :: a.defers } W) :
    (Code.rangeFunc g ps assign body).wpIn F n P Q a w := by
  refine wpIn_rangeFunc ?_
  intro fn hfn
  rw [hro]
  obtain ⟨rec, hrec⟩ : ∃ rec : LoopState → Option Code → Loop, rec = fun st pe => { state := st, pending := pe, fn, tmps := a.tmps, params := ps, assign, body, defers := w.heap.size } := ⟨_, rfl⟩
  obtain ⟨W1, hW1⟩ : ∃ W1, (w.alloc (.deferred (some []))).alloc (.loop (rec .ready none)) = W1 := ⟨_, rfl⟩
  have hL1 : W1.heap[w.heap.size + 1]? = some (.loop (rec .ready none)) := by
    rw [← hW1]; have := World.alloc_heap_new (w.alloc (.deferred (some []))) (.loop (rec .ready none)); rwa [World.size_alloc] at this
  have hK1 : W1.heap[w.heap.size]? = some (.deferred (some [])) := by
    rw [← hW1]; exact (Below.heap_alloc _ _ _ (by simp)).trans (World.alloc_heap_new w _)
  have hI1 : I [] W1 := by rw [← hW1]; exact hI.alloc _ (hI.alloc _ h0)
  have hb1 : Below w.heap.size w W1 := by
    rw [← hW1]; exact ((Below.refl _ w).alloc (Nat.le_refl _) _).alloc (by simp) _
  have keep : ∀ {A B : World} {row : Option Nat} {k : Nat} {o : Obj}, A.grownBy B row → (∀ r, row = some r → r = S) → w.heap.size ≤ k → A.heap[k]? = some o → B.heap[k]? = some o := fun hg' hr hk ho =>
    (hg'.block _ (Array.getElem?_eq_some_iff.1 ho).1 (fun e => by have := hr _ e.symm; omega)).trans ho
  refine ⟨w.heap.size + 1, [{ target := .collected w.heap.size, args := #[] }], W1, { target := .fn (.func gf) lb, args := #[.func (.yield (w.heap.size + 1)) #[] #[]] }, W1, gf,
    #[.func (.yield (w.heap.size + 1)) #[] #[]] ++ lb, W1, ?_, ?_, ?_, ?_, fun _ => h1, ?_⟩
  · rw [← hW1, hrec]; exact run_enterLoop_outer _ _ _ _ _
  · simp only [resolve, hg]
    simp [go_sem]
  · intro f' hf'; simp [Target.leads] at hf'; subst hf'; exact hFg
  · simp [invoke, go_sem, eg]
  · refine (hseq (w.heap.size + 1)
      (fun pre W => I pre W ∧ W.heap[w.heap.size + 1]? = some (.loop (rec .ready none)) ∧ W.heap[w.heap.size]? = some (.deferred (some [])))
      (fun pre W => ∃ c, Ix c pre W ∧ W.heap[w.heap.size + 1]? = some (.loop (rec .done (some c))) ∧ W.heap[w.heap.size]? = some (.deferred (some [])))
      W1 hb1
      (fun s A B row hs hg' hr => ⟨hI s A B row hs.1 hg' (fun r e => .inl (hr r e)), keep hg' hr (by omega) hs.2.1, keep hg' hr (Nat.le_refl _) hs.2.2⟩)
      (fun s A B row hs hg' hr => by
        obtain ⟨c, hc, hl, hk⟩ := hs
        exact ⟨c, hIx c s A B row hc hg' (fun r e => .inl (hr r e)), keep hg' hr (by omega) hl, keep hg' hr (Nat.le_refl _) hk⟩)
      ?_ ⟨hI1, hL1, hK1⟩).mono ?_
    · rintro pre x W ⟨hi, hl, hk⟩ hpre
      have hlt : w.heap.size + 1 < W.heap.size := (Array.getElem?_eq_some_iff.1 hl).1
      have hy := run_yield (P := P) (args := encs x) hl (by rw [hrec]; exact hps x)
      rw [hrec] at hy
      refine ⟨fn, _, assign, body, hy, roundIn_of_wpIn hfn (hassign _ x W _ ⟨_, run_beginRound hl (by rw [hrec]), ?_⟩)⟩
      have hl2 : (W.putObj (w.heap.size + 1) (.loop { rec .ready none with state := .busy })).heap[w.heap.size + 1]? = some (.loop { rec .ready none with state := .busy }) := World.putObj_heap_same hlt
      have hk2 : (W.putObj (w.heap.size + 1) (.loop { rec .ready none with state := .busy })).heap[w.heap.size]? = some (.deferred (some [])) := (World.putObj_heap_other (by omega)).trans hk
      have hw2 : Kp W (W.putObj (w.heap.size + 1) (.loop { rec .ready none with state := .busy })) := hKb _ _ _ (by omega)
      refine wpIn_mono (hbody _ pre x _ (hI.putObj _ hi (by omega) hl rfl) hpre) ?_
      have fin : ∀ (jump : Option Code) (W3 : World), KeepsOthers (W.putObj (w.heap.size + 1) (.loop { rec .ready none with state := .busy })) W3 →
          (Instr.endRound (w.heap.size + 1) jump).run P W3 = .ok (.bool jump.isNone) (W3.putObj (w.heap.size + 1) (.loop (rec (if jump.isNone then .ready else .done) jump))) ∧
          W3.heap[w.heap.size + 1]? = some (.loop { rec .ready none with state := .busy }) ∧
          (W3.putObj (w.heap.size + 1) (.loop (rec (if jump.isNone then .ready else .done) jump))).heap[w.heap.size + 1]? = some (.loop (rec (if jump.isNone then .ready else .done) jump)) ∧
          (W3.putObj (w.heap.size + 1) (.loop (rec (if jump.isNone then .ready else .done) jump))).heap[w.heap.size]? = some (.deferred (some [])) := fun jump W3 hk3 => by
        have hl3 := hk3.same _ _ hl2 rfl
        have := run_endRound (P := P) jump hl3
        rw [hrec] at this ⊢
        exact ⟨this, by rw [hrec] at hl3; exact hl3, World.putObj_heap_same (Array.getElem?_eq_some_iff.1 hl3).1, (World.putObj_heap_other (by omega)).trans (hk3.same _ _ hk2 rfl)⟩
      rintro e a3 W3 hp
      cases e with
      | normal =>
        obtain ⟨hk3, hkp3, hi3⟩ := hp
        obtain ⟨hr, hl3, hl4, hk4⟩ := fin none W3 hk3
        exact ⟨_, _, hr, .inl ⟨rfl, ⟨hI.putObj _ hi3 (by omega) hl3 rfl, hl4, hk4⟩, hKt (hKt hw2 hkp3) (hKb _ _ _ (by omega))⟩⟩
      | ret =>
        obtain ⟨hk3, hi3⟩ := hp
        obtain ⟨hr, hl3, hl4, hk4⟩ := fin (some .ret) W3 hk3
        exact ⟨_, _, hr, .inr ⟨rfl, .ret, (hIx _).putObj _ hi3 (by omega) hl3 rfl, hl4, hk4⟩⟩
      | exit id =>
        obtain ⟨hk3, hi3⟩ := hp
        obtain ⟨hr, hl3, hl4, hk4⟩ := fin (some (.exit id)) W3 hk3
        exact ⟨_, _, hr, .inr ⟨rfl, .exit id, (hIx _).putObj _ hi3 (by omega) hl3 rfl, hl4, hk4⟩⟩
      | goto t =>
        obtain ⟨hk3, hi3⟩ := hp
        obtain ⟨hr, hl3, hl4, hk4⟩ := fin (some (.goto t)) W3 hk3
        exact ⟨_, _, hr, .inr ⟨rfl, .goto t, (hIx _).putObj _ hi3 (by omega) hl3 rfl, hl4, hk4⟩⟩
      | panic ch => exact hp.elim
      | outgrown => exact hp.elim
    · rintro e W2 ⟨⟨v, rfl⟩, (⟨hi, hl, hk⟩ | ⟨pre, hSp, c, hi, hl, hk⟩)⟩
      · exact ⟨none, _, by have := run_endLoop (P := P) hl (by rw [hrec]; simp); rw [hrec] at this; exact this, hdone _ _ (Nat.le_refl _) (hI.putObj _ hi (by omega) hl rfl) ((World.putObj_heap_other (by omega)).trans hk)⟩
      · exact ⟨some c, _, by have := run_endLoop (P := P) hl (by rw [hrec]; simp); rw [hrec] at this; exact this, hstop _ c pre _ (Nat.le_refl _) hSp ((hIx c).putObj _ hi (by omega) hl rfl) ((World.putObj_heap_other (by omega)).trans hk)⟩
end Go.Proofs.YtofnhgpiipmegaaDoor.PV
namespace Go.Proofs
open Go.Shelf
def Tryd.lays143_ren : Go.Shelf.Ren := ⟨fun | 143 => 87 | 219 => 89 | 217 => 90 | 225 => 91 | 224 => 92 | 267 => 93 | 266 => 94 | 314 => 95 | n => n, fun | 9 => 9 | 3 => 3 | 4 => 4 | 5 => 5 | 46 => 49 | 146 => 111 | 51 => 110 | n => n, fun | 1 => 3 | n => n⟩
theorem Tryd.lays143 : Go.Proofs.Lays.n143 Tryd.prog Tryd.lays143_ren := {
  mixed := by kernel_rfl
  f143 := Tryd.func87.trans (congrArg some (by kernel_rfl))
  f217 := Tryd.func90.trans (congrArg some (by kernel_rfl))
  f219 := Tryd.func89.trans (congrArg some (by kernel_rfl))
  f224 := Tryd.func92.trans (congrArg some (by kernel_rfl))
  f225 := Tryd.func91.trans (congrArg some (by kernel_rfl))
  f266 := Tryd.func94.trans (congrArg some (by kernel_rfl))
  f267 := Tryd.func93.trans (congrArg some (by kernel_rfl))
  f314 := Tryd.func95.trans (congrArg some (by kernel_rfl))
  t3 := Tryd.underlying3
  a3 := Tryd.isAgg3
  z3 := Tryd.sizeOf3
  v3 := Tryd.zeroValue3
  t4 := Tryd.underlying4
  a4 := Tryd.isAgg4
  z4 := Tryd.sizeOf4
  v4 := Tryd.zeroValue4
  t5 := Tryd.underlying5
  a5 := Tryd.isAgg5
  z5 := Tryd.sizeOf5
  v5 := Tryd.zeroValue5
  t9 := Tryd.underlying9
  a9 := Tryd.isAgg9
  z9 := Tryd.sizeOf9
  v9 := Tryd.zeroValue9
  t46 := Tryd.underlying49
  a46 := Tryd.isAgg49
  z46 := Tryd.sizeOf49
  v46 := Tryd.zeroValue49
  t51 := Tryd.underlying110
  a51 := Tryd.isAgg110
  z51 := Tryd.sizeOf110
  v51 := Tryd.zeroValue110
  t146 := Tryd.underlying111
  a146 := Tryd.isAgg111
  z146 := Tryd.sizeOf111
  v146 := Tryd.zeroValue111
  g1 := by kernel_rfl }
open Go.RowKit Go.Lib in
/-- strings.Index at a sign of one byte. -/
theorem Tryd.strings_Index_one (s : ByteArray) (c : UInt8) (w : World) :
    Calls Tryd.prog 87 #[.string s, .string ⟨#[c]⟩] w fun e w' => e = .returned (.int .i64 (Lib.indexByte s.data.toList c)) ∧ w' = w := Any.strings_Index_one Tryd.lays143 s c w
end Go.Proofs
namespace Go.Proofs.YtofnhgpiipmegaaDoor.PV
open Go Go.RowKit Go.Shelf Go.Proofs.YtofnhgpiipmegaaDoorW.PrintWords
attribute [local go_sem] Oper.semAt_some
set_option linter.unusedVariables false
set_option linter.unusedSimpArgs false
/-- The pieces of a text between the signs c. -/
def cutAt (c : UInt8) : List UInt8 → List (List UInt8)
  | [] => [[]]
  | x :: r => if x = c then [] :: cutAt c r else match cutAt c r with
    | [] => [[x]]
    | p :: ps => (x :: p) :: ps
def piecesB (c : UInt8) (s : ByteArray) : List ByteArray := (cutAt c s.data.toList).map fun l => ⟨l.toArray⟩
theorem cutAt_ne (c : UInt8) : ∀ l, cutAt c l ≠ []
  | [] => by simp [cutAt]
  | x :: r => by
    unfold cutAt
    split
    · simp
    · split <;> simp
theorem cutAt_cons (c x : UInt8) (r : List UInt8) : cutAt c (x :: r) = if x = c then [] :: cutAt c r else match cutAt c r with | [] => [[x]] | p :: ps => (x :: p) :: ps := rfl
theorem cutAt_none (c : UInt8) : ∀ l, Lib.indexByte l c = -1 → cutAt c l = [l]
  | [], _ => rfl
  | x :: r, h => by
    unfold Lib.indexByte at h
    rw [cutAt_cons]
    by_cases e : x = c
    · subst e; simp at h
    · have e' : (x == c) = false := by simp [e]
      rw [e'] at h
      have hr : Lib.indexByte r c = -1 := by
        have := Lib.indexByte_ge r c
        by_cases q : Lib.indexByte r c = -1
        · exact q
        · have : (Lib.indexByte r c == -1) = false := by simp [q]
          rw [this] at h; simp at h; omega
      rw [if_neg e, cutAt_none c r hr]
theorem cutAt_some (c : UInt8) : ∀ l (i : Nat), Lib.indexByte l c = (i : Int) → i < l.length ∧ cutAt c l = l.take i :: cutAt c (l.drop (i + 1))
  | [], i, h => by simp [Lib.indexByte] at h
  | x :: r, i, h => by
    unfold Lib.indexByte at h
    rw [cutAt_cons]
    by_cases e : x = c
    · have e' : (x == c) = true := by simp [e]
      rw [e'] at h
      simp at h
      obtain rfl : i = 0 := by omega
      rw [if_pos e]
      exact ⟨by rw [List.length_cons]; omega, by rw [List.take_zero, List.drop_succ_cons, List.drop_zero]⟩
    · have e' : (x == c) = false := by simp [e]
      rw [e'] at h
      have hge := Lib.indexByte_ge r c
      by_cases q : Lib.indexByte r c = -1
      · rw [q] at h; simp at h
      · have q' : (Lib.indexByte r c == -1) = false := by simp [q]
        rw [q'] at h
        simp at h
        obtain ⟨j, hj⟩ : ∃ j : Nat, Lib.indexByte r c = j := ⟨(Lib.indexByte r c).toNat, by omega⟩
        obtain rfl : i = j + 1 := by omega
        obtain ⟨h1, h2⟩ := cutAt_some c r j hj
        rw [if_neg e, h2]
        exact ⟨by rw [List.length_cons]; omega, by rw [List.take_succ_cons, List.drop_succ_cons]⟩
theorem ext_bytes {a b : ByteArray} (h : a.data.toList = b.data.toList) : a = b := by
  cases a with | mk a => cases b with | mk b => simp at h; rw [h]
theorem piecesB_none (c : UInt8) (s : ByteArray) (h : Lib.indexByte s.data.toList c = -1) : piecesB c s = [s] := by
  unfold piecesB; rw [cutAt_none c _ h]; simp
theorem piecesB_some (c : UInt8) (s : ByteArray) (i : Nat) (h : Lib.indexByte s.data.toList c = (i : Int)) : i < s.size ∧ piecesB c s = s.extract 0 i :: piecesB c (s.extract (i + 1) s.size) := by
  obtain ⟨h1, h2⟩ := cutAt_some c _ i h
  have hl : s.data.toList.length = s.size := by simp
  refine ⟨by omega, ?_⟩
  unfold piecesB
  rw [h2, Lib.extract_data]
  simp only [List.map_cons]
  congr 1
  · apply ext_bytes; rw [Lib.extract_data]; simp
  · rw [List.take_of_length_le (by simp [hl])]
/-- What a round keeps of the iterator's three variables' boxes. -/
def KeepsThree (S : Nat) (W W' : World) : Prop := ∀ b, S ≤ b → b < S + 3 → W'.heap[b]? = W.heap[b]?
theorem keepsThree_t {S : Nat} {A B C : World} (h : KeepsThree S A B) (k : KeepsThree S B C) : KeepsThree S A C := fun b h1 h2 => (k b h1 h2).trans (h b h1 h2)
theorem keepsThree_b {S : Nat} {w : World} (hS : S + 3 ≤ w.heap.size) (W : World) (l : Nat) (o' : Obj) (hl : w.heap.size ≤ l) : KeepsThree S W (W.putObj l o') := fun b _ h2 => World.putObj_heap_other (by omega)
set_option maxRecDepth 100000 in
set_option maxHeartbeats 4000000 in
theorem splitSeq_stops (n : Nat) (hn : 2 ≤ n) (S : Nat) (s : ByteArray) (c : UInt8) (w : World) (hs : s.size ≤ 140737488351232)
    (h0 : Boxed w S 9 (.string s)) (h1 : Boxed w (S + 1) 9 (.string ⟨#[c]⟩)) (h2 : Boxed w (S + 2) 3 (.int .i64 0)) :
    SeqBox Fence.wide n Tryd.prog 85 #[.pointer (some ⟨S + 1, 0, none⟩), .pointer (some ⟨S, 0, none⟩), .pointer (some ⟨S + 2, 0, none⟩)] (fun x : ByteArray => #[Value.string x]) (KeepsThree S) S (piecesB c s) w := by
  intro l J Jx W hW hJ hJx hY hJ0
  have g0 : Boxed W S 9 (.string s) := (hW.block S h0.lt).trans h0
  have g1 : Boxed W (S + 1) 9 (.string ⟨#[c]⟩) := (hW.block _ h1.lt).trans h1
  have g2 : Boxed W (S + 2) 3 (.int .i64 0) := (hW.block _ h2.lt).trans h2
  clear h0 h1 h2 hW
  have hc1 := g1.cell
  have hf1 := g1.frozen
  have hF : Fence.wide.fn 87 := trivial
  have h1n : 1 ≤ n := by omega
  refine callsIn_of_wp Tryd.func85 rfl trivial ?_ rfl
  simp only [Tryd.ntmps85, List.size_toArray, List.length_cons, List.length_nil, Nat.reduceAdd, Nat.reduceSub, Array.replicate_succ, Array.replicate_zero, List.push_toArray, List.append_toArray, List.nil_append, List.cons_append]
  gi_wp2
  gi_loopw [7, 8] (fun v7 v8 wr => ∃ (pre : List ByteArray) (rest : ByteArray), rest.size ≤ s.size ∧ Aside0 (pre ++ piecesB c rest = piecesB c s) ∧ Aside0 (Boxed wr S 9 (.string rest)) ∧ Aside0 (Boxed wr (S + 1) 9 (.string ⟨#[c]⟩)) ∧ Aside0 (Boxed wr (S + 2) 3 (.int .i64 0)) ∧ Aside0 (J pre wr))
    (fun _ _ wr => match wr.cell? ⟨S, 0, none⟩ with | some (.string t) => t.size | _ => 0)
  case atStart =>
    exact ⟨[], s, Nat.le_refl _, ⟨rfl⟩, ⟨g0⟩, ⟨g1⟩, ⟨g2⟩, ⟨hJ0⟩⟩
  case round =>
    obtain ⟨pre, rest, hsz, HX, ⟨b0⟩, ⟨b1⟩, ⟨b2⟩, ⟨hj⟩⟩ := hrel
    have c0 := b0.cell
    have c1 := b1.cell
    have c2 := b2.cell
    have f0 := b0.frozen
    by_cases hi : Lib.indexByte rest.data.toList c = -1
    · have hp := piecesB_none c rest hi
      have HP := Aside0.mk hp
      have HI := Aside0.mk hi
      clear hp hi
      obtain ⟨fn, tmps, assign, body, hy, hR⟩ := hY pre rest wr hj (by rw [← HX.out, HP.out]; exact List.prefix_refl _)
      gi_wp2_with (gi_at_call 87; refine (callsIn_wide.2 (Tryd.strings_Index_one rest c _)).mono ?_; rw [HI.out]; rintro e w' ⟨rfl, rfl⟩)
      refine hR.mono ?_
      rintro e W3 (⟨rfl, hJ3, _⟩ | ⟨rfl, hJx3⟩)
      · gi_wp2
        go_end0
        exact ⟨⟨_, rfl⟩, .inl (by rw [← HX.out, HP.out]; exact hJ3)⟩
      · gi_wp2
        go_end0
        exact ⟨⟨_, rfl⟩, .inr ⟨pre ++ [rest], by rw [← HX.out, HP.out]; exact List.prefix_refl _, hJx3⟩⟩
    · obtain ⟨i, hi⟩ : ∃ i : Nat, Lib.indexByte rest.data.toList c = i := ⟨(Lib.indexByte rest.data.toList c).toNat, by have := Lib.indexByte_ge rest.data.toList c; omega⟩
      obtain ⟨hlt, hp⟩ := piecesB_some c rest i hi
      have HP := Aside0.mk hp
      have HI := Aside0.mk hi
      clear hp hi
      obtain ⟨fn, tmps, assign, body, hy, hR⟩ := hY pre (rest.extract 0 i) wr hj (by rw [← HX.out, HP.out]; exact ⟨piecesB c (rest.extract (i + 1) rest.size), by simp⟩)
      gi_wp2_with (gi_at_call 87; refine (callsIn_wide.2 (Tryd.strings_Index_one rest c _)).mono ?_; rw [HI.out]; rintro e w' ⟨rfl, rfl⟩)
      refine hR.mono ?_
      rintro e W3 (⟨rfl, hJ3, hk3⟩ | ⟨rfl, hJx3⟩)
      · have d0 : Boxed W3 S 9 (.string rest) := (hk3 S (by omega) (by omega)).trans b0
        have d1 : Boxed W3 (S + 1) 9 (.string ⟨#[c]⟩) := (hk3 (S + 1) (by omega) (by omega)).trans b1
        have d2 : Boxed W3 (S + 2) 3 (.int .i64 0) := (hk3 (S + 2) (by omega) (by omega)).trans b2
        have e0 := d0.cell
        have e1 := d1.cell
        have e2 := d2.cell
        have k0 := d0.frozen
        gi_wp2
        go_roundw
        case rel =>
          refine ⟨pre ++ [rest.extract 0 i], rest.extract (i + 1) rest.size, ?_, ⟨by rw [← HX.out, HP.out]; simp⟩, ⟨d0.set _⟩, ⟨d1.kept (grownBy_setCell' _ _ _) (by simp)⟩, ⟨d2.kept (grownBy_setCell' _ _ _) (by simp)⟩, ⟨hJ _ _ _ _ hJ3 (grownBy_setCell' _ _ _) (fun r e => by cases e; rfl)⟩⟩
          rw [ByteArray.size_extract]; omega
        case measure =>
          rw [(d0.set (.string (rest.extract (i + 1) rest.size))).cell, b0.cell]
          show (rest.extract (i + 1) rest.size).size < rest.size
          rw [ByteArray.size_extract]; omega
      · gi_wp2
        refine bodyPost_ret (results_none rfl _ _ _) rfl ?_
        exact ⟨⟨_, rfl⟩, .inr ⟨pre ++ [rest.extract 0 i], by rw [← HX.out, HP.out]; exact ⟨piecesB c (rest.extract (i + 1) rest.size), by simp⟩, hJx3⟩⟩
end Go.Proofs.YtofnhgpiipmegaaDoor.PV
namespace Go.Proofs.YtofnhgpiipmegaaDoor.PV
open Go Go.RowKit Go.Shelf Go.Proofs.YtofnhgpiipmegaaDoorW.PrintWords Go.Proofs.YtofnhgpiipmegaaDoorW.PrintLast Go.Proofs.YtofnhgpiipmegaaDoorW.PrintMore
set_option linter.unusedVariables false
set_option linter.unusedSimpArgs false
/-- A piece's number: none: it is none. -/
def pieceQ (base : Int) (p : ByteArray) : ByteArray := if base = 16 then ⟨#[49]⟩ ++ p else p
def pieceNum (base : Int) (p : ByteArray) : Option Int :=
  if base = 16 ∧ p.size ≠ 2 then none else
    match numAll base (pieceQ base p).data.toList with
    | (_, lo, _, ok) => if ok = false ∨ 3 < (pieceQ base p).size ∨ (base = 10 ∧ 255 < lo) then none else some lo
def pFold (base most : Int) : List ByteArray → List Int → Option (List Int)
  | [], acc => some acc
  | p :: ps, acc => match pieceNum base p with
    | none => none
    | some v => if (acc.length : Int) = most then none else pFold base most ps (acc ++ [v % 256])
theorem pFold_append (base most : Int) : ∀ (a b : List ByteArray) (acc : List Int), pFold base most (a ++ b) acc = (pFold base most a acc).bind (pFold base most b)
  | [], b, acc => rfl
  | p :: a, b, acc => by
    simp only [List.cons_append, pFold]
    cases pieceNum base p with
    | none => rfl
    | some v =>
      dsimp only
      split
      · rfl
      · exact pFold_append base most a b _
def value_pieces.f (a0 a1 : ByteArray) (a2 a3 : Int) : Option (ByteArray × Bool) :=
  match a1.data.toList with
  | [c] => if a0.size ≤ 140737488351232 ∧ (a2 = 10 ∨ a2 = 16) ∧ 0 ≤ a3 ∧ a3 ≤ 16 then
      (match pFold a2 a3 (piecesB c a0) [] with
        | none => some (⟨#[]⟩, false)
        | some acc => some (strOfNums acc, decide ((acc.length : Int) = a3)))
      else none
  | _ => none
theorem splitSeq_any (s : ByteArray) (c : UInt8) (w : World) :
    Calls Tryd.prog 82 #[.string s, .string ⟨#[c]⟩, .int .i64 0] w fun e w' => e = .returned (.func (.func 85) #[] #[.pointer (some ⟨w.heap.size + 1, 0, none⟩), .pointer (some ⟨w.heap.size, 0, none⟩), .pointer (some ⟨w.heap.size + 2, 0, none⟩)]) ∧
      w' = ((w.alloc (.cells #[.string s] 9)).alloc (.cells #[.string ⟨#[c]⟩] 9)).alloc (.cells #[.int .i64 0] 3) := by
  go_enter Tryd.func82, Tryd.ntmps82
  go_wp2
  go_ret
  exact ⟨rfl, rfl⟩
theorem SplitSeq_any (s : ByteArray) (c : UInt8) (w : World) :
    Calls Tryd.prog 71 #[.string s, .string ⟨#[c]⟩] w fun e w' => e = .returned (.func (.func 85) #[] #[.pointer (some ⟨w.heap.size + 1, 0, none⟩), .pointer (some ⟨w.heap.size, 0, none⟩), .pointer (some ⟨w.heap.size + 2, 0, none⟩)]) ∧
      w' = ((w.alloc (.cells #[.string s] 9)).alloc (.cells #[.string ⟨#[c]⟩] 9)).alloc (.cells #[.int .i64 0] 3) := by
  go_enter Tryd.func71, Tryd.ntmps71
  go_wp2_with fail
  refine (splitSeq_any s c _).mono ?_
  rintro e w' ⟨rfl, rfl⟩
  go_wp2
  go_ret
  exact ⟨rfl, rfl⟩
/-- What value.pieces hands back. -/
def pRes (c : UInt8) (a0 : ByteArray) (a2 a3 : Int) : ByteArray × Bool :=
  match pFold a2 a3 (piecesB c a0) [] with
  | none => (⟨#[]⟩, false)
  | some acc => (strOfNums acc, decide ((acc.length : Int) = a3))
theorem pFold_len (base most : Int) : ∀ (l : List ByteArray) (acc r : List Int), (acc.length : Int) ≤ most → pFold base most l acc = some r → (r.length : Int) ≤ most
  | [], acc, r, h, e => by simp only [pFold, Option.some.injEq] at e; subst e; exact h
  | p :: ps, acc, r, h, e => by
    simp only [pFold] at e
    cases hp : pieceNum base p with
    | none => rw [hp] at e; cases e
    | some v =>
      rw [hp] at e
      dsimp only at e
      split at e
      · cases e
      · exact pFold_len base most ps _ r (by rw [List.length_append]; simp; omega) e
/-- Between two rounds. -/
def PI (w : World) (a2 a3 : Int) (pre : List ByteArray) (W : World) : Prop :=
  (∃ (acc : List Int) (v : Value), pFold a2 a3 pre [] = some acc ∧ Boxed W (w.heap.size + 4) 50 v ∧ W.ownsRow (w.heap.size + 8) 5 1 v acc.length (nums .u8 acc)) ∧
  Boxed W w.heap.size 22 (.int .u64 a2) ∧ Boxed W (w.heap.size + 1) 3 (.int .i64 a3) ∧ Boxed W (w.heap.size + 2) 9 (.string ⟨#[]⟩) ∧ Boxed W (w.heap.size + 3) 4 (.bool false) ∧ Below w.heap.size w W ∧ w.heap.size + 8 ≤ W.heap.size
/-- A round has returned. -/
def PX (w : World) (a2 a3 : Int) (c : Code) (pre : List ByteArray) (W : World) : Prop :=
  (c = .ret ∧ pFold a2 a3 pre [] = none) ∧ Boxed W (w.heap.size + 2) 9 (.string ⟨#[]⟩) ∧ Boxed W (w.heap.size + 3) 4 (.bool false) ∧ Below w.heap.size w W
theorem box_step {W W' : World} {S B C : Nat} {t : TypeId} {v : Value} {row : Option Nat} (h : Boxed W C t v) (hC : C ≠ S) (hg : W.grownBy W' row) (hr : ∀ r, row = some r → r = S ∨ (B ≤ r ∧ ∃ o : Obj, W.heap[r]? = some o ∧ o.isCells = false)) : Boxed W' C t v :=
  h.kept hg (fun e => by
    rcases hr C e.symm with h' | ⟨_, o, ho, hc⟩
    · exact hC h'
    · rw [show W.heap[C]? = _ from h] at ho; cases ho; cases hc)
theorem row_step {W W' : World} {S B n₀ : Nat} {e : TypeId} {v : Value} {k : Nat} {xs : List Value} {row : Option Nat} (hS : S < n₀) (h : W.ownsRow n₀ e 1 v k xs) (hg : W.grownBy W' row) (hr : ∀ r, row = some r → r = S ∨ (B ≤ r ∧ ∃ o : Obj, W.heap[r]? = some o ∧ o.isCells = false)) : W'.ownsRow n₀ e 1 v k xs := by
  refine h.kept hg ?_
  rcases h.2 with ⟨rfl, _⟩ | ⟨g, cap, cur, rfl, hb, hgb, _⟩
  · exact .inl rfl
  · refine .inr fun e' => ?_
    rcases hr g (by simpa [Value.ownBlock] using e'.symm) with h' | ⟨_, o, ho, hc⟩
    · omega
    · rw [hgb] at ho; cases ho; cases hc
theorem PI_own (w : World) (a2 a3 : Int) : OwnBox (w.heap.size + 5) (w.heap.size + 8) (PI w a2 a3) := by
  rintro pre W W' row ⟨⟨acc, v, h1, h2, h3⟩, h4, h5, h6, h7, h8, h9⟩ hg hr
  exact ⟨⟨acc, v, h1, box_step h2 (by omega) hg hr, row_step (by omega) h3 hg hr⟩, box_step h4 (by omega) hg hr, box_step h5 (by omega) hg hr, box_step h6 (by omega) hg hr, box_step h7 (by omega) hg hr, (ownBox_below (β := Unit) (Nat.le_refl _) (by omega) (by omega)) () W W' row h8 hg hr, Nat.le_trans h9 hg.size⟩
theorem PX_own (w : World) (a2 a3 : Int) (c : Code) : OwnBox (w.heap.size + 5) (w.heap.size + 8) (PX w a2 a3 c) := by
  rintro pre W W' row ⟨h1, h6, h7, h8⟩ hg hr
  exact ⟨h1, box_step h6 (by omega) hg hr, box_step h7 (by omega) hg hr, (ownBox_below (β := Unit) (Nat.le_refl _) (by omega) (by omega)) () W W' row h8 hg hr⟩
theorem cutAt_le (c : UInt8) : ∀ (l p : List UInt8), p ∈ cutAt c l → p.length ≤ l.length
  | [], p, h => by simp [cutAt] at h; simp [h]
  | x :: r, p, h => by
    have ih := cutAt_le c r
    rw [cutAt_cons] at h
    split at h
    · rcases List.mem_cons.1 h with rfl | h
      · simp
      · have := ih p h; rw [List.length_cons]; omega
    · cases hc : cutAt c r with
      | nil => exact absurd hc (cutAt_ne c r)
      | cons q ps =>
        rw [hc] at h ih
        rcases List.mem_cons.1 h with rfl | h
        · have := ih q List.mem_cons_self; rw [List.length_cons, List.length_cons]; omega
        · have := ih p (List.mem_cons_of_mem _ h); rw [List.length_cons]; omega
theorem piece_le {c : UInt8} {s x : ByteArray} {pre : List ByteArray} (h : (pre ++ [x]) <+: piecesB c s) : x.size ≤ s.size := by
  have hm : x ∈ piecesB c s := h.subset (by simp)
  obtain ⟨l, hl, rfl⟩ := List.mem_map.1 hm
  have := cutAt_le c _ l hl
  rw [data_length] at this
  exact this
theorem below_grow {W w1 : World} (h : Below W.heap.size W w1) : W.grownBy w1 none := ⟨h.os, h.tape, h.output, h.size, fun k hk _ => h.block k hk⟩
theorem keeps_three_grow {S : Nat} {W X : World} {row : Option Nat} (hg : W.grownBy X row) (hS : S + 3 ≤ W.heap.size) (hr : ∀ r, row = some r → r < S ∨ S + 3 ≤ r) : KeepsThree S W X := fun b h1 h2 =>
  hg.block b (by omega) (fun e => by have := hr b e.symm; omega)
theorem px_close {w W X : World} {a2 a3 : Int} {xs : List ByteArray} (hB : Below w.heap.size w W) (hg : W.grownBy X none) (b2 : Boxed X (w.heap.size + 2) 9 (.string ⟨#[]⟩)) (b3 : Boxed X (w.heap.size + 3) 4 (.bool false)) (hp : pFold a2 a3 xs [] = none) :
    KeepsOthers W ((X.setCell ⟨w.heap.size + 2, 0, none⟩ (.string ⟨#[]⟩)).setCell ⟨w.heap.size + 3, 0, none⟩ (.bool false)) ∧ PX w a2 a3 .ret xs ((X.setCell ⟨w.heap.size + 2, 0, none⟩ (.string ⟨#[]⟩)).setCell ⟨w.heap.size + 3, 0, none⟩ (.bool false)) := by
  refine ⟨((KeepsOthers.of_grownBy hg (fun j o e => by cases e)).trans (KeepsOthers.setCell _ _ _)).trans (KeepsOthers.setCell _ _ _), ⟨⟨rfl, hp⟩, ?_, ?_, ?_⟩⟩
  · exact (b2.set _).kept (grownBy_setCell' _ _ _) (by simp)
  · exact (b3.kept (grownBy_setCell' _ _ _) (by simp)).set _
  · exact below_set (below_set (hB.grown hg (by have := hB.size; omega) (fun k e => by cases e)) (by omega)) (by omega)
theorem app_close {w W X w3 : World} {a2 a3 : Int} {xs : List ByteArray} {acc : List Int} {x : Int} {v v' : Value} {tmp : Obj} (hB : Below w.heap.size w W) (hg : W.grownBy X none) (hz : w.heap.size + 8 ≤ W.heap.size)
    (b0 : Boxed X w.heap.size 22 (.int .u64 a2)) (b1 : Boxed X (w.heap.size + 1) 3 (.int .i64 a3)) (b2 : Boxed X (w.heap.size + 2) 9 (.string ⟨#[]⟩)) (b3 : Boxed X (w.heap.size + 3) 4 (.bool false))
    (hv : Boxed X (w.heap.size + 4) 50 v) (hr : X.ownsRow (w.heap.size + 8) 5 1 v acc.length (nums .u8 acc))
    (hown : w3.ownsRow (w.heap.size + 8) 5 1 v' (acc.length + 1) (nums .u8 acc ++ [.int .u8 x])) (hgrow : (X.alloc tmp).grownBy w3 v.ownBlock) (hp : pFold a2 a3 xs [] = some (acc ++ [x])) :
    KeepsOthers W (w3.setCell ⟨w.heap.size + 4, 0, none⟩ v') ∧ KeepsThree (w.heap.size + 5) W (w3.setCell ⟨w.heap.size + 4, 0, none⟩ v') ∧ PI w a2 a3 xs (w3.setCell ⟨w.heap.size + 4, 0, none⟩ v') := by
  have hblk : ∀ j, v.ownBlock = some j → w.heap.size + 8 ≤ j := by
    intro j ej
    rcases hr.2 with ⟨rfl, _⟩ | ⟨g, cap, cur, rfl, hb, _, _⟩
    · simp [Value.ownBlock] at ej
    · obtain rfl : g = j := by simpa [Value.ownBlock] using ej
      exact hb
  have hcells : ∀ j o, v.ownBlock = some j → (X.alloc tmp).heap[j]? = some o → o.isCells = true := by
    intro j o ej hj
    rcases (hr.alloc tmp).2 with ⟨rfl, _⟩ | ⟨g, cap, cur, rfl, _, hgb, _⟩
    · simp [Value.ownBlock] at ej
    · obtain rfl : g = j := by simpa [Value.ownBlock] using ej
      rw [hgb] at hj; cases hj; rfl
  have other : ∀ {C : Nat} {t : TypeId} {u : Value}, Boxed X C t u → C < w.heap.size + 8 → Boxed w3 C t u := fun h hC => (h.alloc tmp).kept hgrow (fun e => by have := hblk _ e.symm; omega)
  have hv3 := other hv (by omega)
  have hXs : W.heap.size ≤ X.heap.size := hg.size
  have hB3 : Below w.heap.size w w3 := (below_alloc (hB.grown hg (by have := hB.size; omega) (fun k e => by cases e)) tmp).grown hgrow (by rw [World.size_alloc]; omega) (fun j e => by have := hblk _ e; omega)
  refine ⟨(((KeepsOthers.of_grownBy hg (fun j o e => by cases e)).trans (KeepsOthers.alloc _ tmp)).trans (KeepsOthers.of_grownBy hgrow hcells)).trans (KeepsOthers.setCell _ _ _), ?_, ⟨⟨acc ++ [x], v', hp, hv3.set v', ?_⟩, (other b0 (by omega)).kept (grownBy_setCell' _ _ _) (by simp), (other b1 (by omega)).kept (grownBy_setCell' _ _ _) (by simp), (other b2 (by omega)).kept (grownBy_setCell' _ _ _) (by simp), (other b3 (by omega)).kept (grownBy_setCell' _ _ _) (by simp), below_set hB3 (by omega), ?_⟩⟩
  · refine keepsThree_t (keeps_three_grow hg (by omega) (fun r e => by cases e)) (keepsThree_t (keeps_three_grow (World.grownBy_alloc X tmp none) (by omega) (fun r e => by cases e)) (keepsThree_t (keeps_three_grow hgrow (by rw [World.size_alloc]; omega) (fun r e => .inr (by have := hblk _ e; omega))) (keeps_three_grow (grownBy_setCell' _ _ _) (by have := hgrow.size; rw [World.size_alloc] at this; omega) (fun r e => by cases e; omega))))
  · have h := hown.kept (grownBy_setCell' w3 (w.heap.size + 4) v') (.inr (hv3.not_row (by decide) hown).symm)
    have e : nums .u8 acc ++ [Value.int .u8 x] = nums .u8 (acc ++ [x]) := by simp [nums]
    rw [e] at h
    rw [List.length_append]
    exact h
  · have h1 := hgrow.size
    have h2 := (grownBy_setCell' w3 (w.heap.size + 4) v').size
    rw [World.size_alloc] at h1
    omega
theorem _root_.Go.World.grownBy.alloc_none {W X : World} (h : W.grownBy X none) (o : Obj) : W.grownBy (X.alloc o) none := by
  have k := World.grownBy_alloc X o none
  exact ⟨k.os.trans h.os, k.tape.trans h.tape, k.output.trans h.output, Nat.le_trans h.size k.size, fun b hb _ => (k.block b (Nat.lt_of_lt_of_le hb h.size) (by simp)).trans (h.block b hb (by simp))⟩
theorem px_close' {w W X : World} {a2 a3 : Int} {xs : List ByteArray} (o : Obj) (hB : Below w.heap.size w W) (hg : W.grownBy X none) (b2 : Boxed X (w.heap.size + 2) 9 (.string ⟨#[]⟩)) (b3 : Boxed X (w.heap.size + 3) 4 (.bool false)) (hp : pFold a2 a3 xs [] = none) :
    KeepsOthers W (((X.setCell ⟨w.heap.size + 2, 0, none⟩ (.string ⟨#[]⟩)).setCell ⟨w.heap.size + 3, 0, none⟩ (.bool false)).alloc o) ∧ PX w a2 a3 .ret xs (((X.setCell ⟨w.heap.size + 2, 0, none⟩ (.string ⟨#[]⟩)).setCell ⟨w.heap.size + 3, 0, none⟩ (.bool false)).alloc o) := by
  obtain ⟨a, b⟩ := px_close hB hg b2 b3 hp
  exact ⟨a.trans (KeepsOthers.alloc _ _), (PX_own w _ _ .ret).alloc _ b⟩
theorem pf_no {b m : Int} {x : ByteArray} {acc : List Int} (h : pieceNum b x = none) : pFold b m [x] acc = none := by simp only [pFold, h]
theorem pf_full {b m v : Int} {x : ByteArray} {acc : List Int} (h : pieceNum b x = some v) (hl : (acc.length : Int) = m) : pFold b m [x] acc = none := by simp only [pFold, h, if_pos hl]
theorem pf_yes {b m v : Int} {x : ByteArray} {acc : List Int} (h : pieceNum b x = some v) (hl : ¬ (acc.length : Int) = m) : pFold b m [x] acc = some (acc ++ [v % 256]) := by simp only [pFold, h, if_neg hl]
theorem pn10 {x : ByteArray} {hi lo : Int} {fi ok : Bool} (hN : numAll 10 x.data.toList = (hi, lo, fi, ok)) : pieceNum 10 x = if ok = false ∨ 3 < x.size ∨ 255 < lo then none else some lo := by
  simp only [pieceNum, pieceQ, show ¬ ((10 : Int) = 16) by decide, false_and, if_false, hN, true_and]
theorem pn16 {x : ByteArray} {hi lo : Int} {fi ok : Bool} (h2 : x.size = 2) (hN : numAll 16 ((⟨#[49]⟩ : ByteArray) ++ x).data.toList = (hi, lo, fi, ok)) : pieceNum 16 x = if ok = false then none else some lo := by
  have e : ((⟨#[49]⟩ : ByteArray) ++ x).size = 3 := by rw [ByteArray.size_append, h2]; rfl
  simp only [pieceNum, pieceQ, if_true, h2, hN, e, ne_eq, not_true_eq_false, and_false, if_false, show ¬ ((16 : Int) = 10) by decide, false_and, or_false, show ¬ (3 < 3) by decide]
theorem pn16_no {x : ByteArray} (h2 : ¬ x.size = 2) : pieceNum 16 x = none := by
  simp only [pieceNum, h2, ne_eq, not_false_eq_true, and_self, if_true]
theorem box_past {X w3 : World} {n₀ C k size : Nat} {e t : TypeId} {u v : Value} {xs : List Value} {tmp : Obj} (h : Boxed X C t u) (hC : C < n₀) (hr : X.ownsRow n₀ e size v k xs) (hgrow : (X.alloc tmp).grownBy w3 v.ownBlock) : Boxed w3 C t u :=
  (h.alloc tmp).kept hgrow (fun ej => by
    rcases hr.2 with ⟨rfl, _⟩ | ⟨g, cap, cur, rfl, hb, _, _⟩
    · simp [Value.ownBlock] at ej
    · have : C = g := by simpa [Value.ownBlock] using ej
      omega)
theorem Trydinfo5 : (Tryd.prog.info? 5).map (fun i => (i.zero, i.size, i.bytes)) = some (some (.int .u8 0), 1, 1) := by kernel_rfl
attribute [local go_sem] Oper.semAt_some
set_option maxRecDepth 100000 in
set_option maxHeartbeats 4000000 in
theorem pieces_go (a0 : ByteArray) (c : UInt8) (a2 a3 : Int) (w : World) (hs : a0.size ≤ 140737488351232) (h2 : a2 = 10 ∨ a2 = 16) (h3 : 0 ≤ a3) (h4 : a3 ≤ 16) :
    CallsIn Fence.wide 5 Tryd.prog 45 #[.string a0, .string ⟨#[c]⟩, .int .u64 a2, .int .i64 a3] w fun e W' =>
      e = .returned (.tuple #[.string (pRes c a0 a2 a3).1, .bool (pRes c a0 a2 a3).2]) ∧ Below w.heap.size w W' := by
  have hF71 : Fence.wide.fn 71 := trivial
  have hF44 : Fence.wide.fn 44 := trivial
  obtain ⟨i0, hi, hz0, hz1, hz2⟩ := info_parts Trydinfo5
  refine callsIn_of_wp_marks Tryd.func45 rfl trivial ?_ rfl
  simp only [Tryd.ntmps45, List.size_toArray, List.length_cons, List.length_nil, Nat.reduceAdd, Nat.reduceSub, Array.replicate_succ, Array.replicate_zero, List.push_toArray, List.append_toArray, List.nil_append, List.cons_append]
  gi_wp2_with (gi_at_call 71; refine (callsIn_wide.2 (SplitSeq_any a0 c _)).mono ?_; rintro e w' ⟨rfl, rfl⟩)
  have k0 := Boxed.new w 22 (.int .u64 a2)
  have k1 := Boxed.new (w.alloc (.cells #[.int .u64 a2] 22)) 3 (.int .i64 a3)
  have k2 := Boxed.new ((w.alloc (.cells #[.int .u64 a2] 22)).alloc (.cells #[.int .i64 a3] 3)) 9 (.string ⟨#[]⟩)
  have k3 := Boxed.new (((w.alloc (.cells #[.int .u64 a2] 22)).alloc (.cells #[.int .i64 a3] 3)).alloc (.cells #[.string ⟨#[]⟩] 9)) 4 (.bool false)
  have k4 := Boxed.new ((((w.alloc (.cells #[.int .u64 a2] 22)).alloc (.cells #[.int .i64 a3] 3)).alloc (.cells #[.string ⟨#[]⟩] 9)).alloc (.cells #[.bool false] 4)) 50 (.slice none 0 0)
  have k5 := Boxed.new (((((w.alloc (.cells #[.int .u64 a2] 22)).alloc (.cells #[.int .i64 a3] 3)).alloc (.cells #[.string ⟨#[]⟩] 9)).alloc (.cells #[.bool false] 4)).alloc (.cells #[.slice none 0 0] 50)) 9 (.string a0)
  have k6 := Boxed.new ((((((w.alloc (.cells #[.int .u64 a2] 22)).alloc (.cells #[.int .i64 a3] 3)).alloc (.cells #[.string ⟨#[]⟩] 9)).alloc (.cells #[.bool false] 4)).alloc (.cells #[.slice none 0 0] 50)).alloc (.cells #[.string a0] 9)) 9 (.string ⟨#[c]⟩)
  have k7 := Boxed.new (((((((w.alloc (.cells #[.int .u64 a2] 22)).alloc (.cells #[.int .i64 a3] 3)).alloc (.cells #[.string ⟨#[]⟩] 9)).alloc (.cells #[.bool false] 4)).alloc (.cells #[.slice none 0 0] 50)).alloc (.cells #[.string a0] 9)).alloc (.cells #[.string ⟨#[c]⟩] 9)) 3 (.int .i64 0)
  have q0 := (((((((k0.alloc (.cells #[.int .i64 a3] 3)).alloc (.cells #[.string ⟨#[]⟩] 9)).alloc (.cells #[.bool false] 4)).alloc (.cells #[.slice none 0 0] 50)).alloc (.cells #[.string a0] 9)).alloc (.cells #[.string ⟨#[c]⟩] 9)).alloc (.cells #[.int .i64 0] 3))
  have q1 := ((((((k1.alloc (.cells #[.string ⟨#[]⟩] 9)).alloc (.cells #[.bool false] 4)).alloc (.cells #[.slice none 0 0] 50)).alloc (.cells #[.string a0] 9)).alloc (.cells #[.string ⟨#[c]⟩] 9)).alloc (.cells #[.int .i64 0] 3))
  have q2 := (((((k2.alloc (.cells #[.bool false] 4)).alloc (.cells #[.slice none 0 0] 50)).alloc (.cells #[.string a0] 9)).alloc (.cells #[.string ⟨#[c]⟩] 9)).alloc (.cells #[.int .i64 0] 3))
  have q3 := ((((k3.alloc (.cells #[.slice none 0 0] 50)).alloc (.cells #[.string a0] 9)).alloc (.cells #[.string ⟨#[c]⟩] 9)).alloc (.cells #[.int .i64 0] 3))
  have q4 := (((k4.alloc (.cells #[.string a0] 9)).alloc (.cells #[.string ⟨#[c]⟩] 9)).alloc (.cells #[.int .i64 0] 3))
  have q5 := ((k5.alloc (.cells #[.string ⟨#[c]⟩] 9)).alloc (.cells #[.int .i64 0] 3))
  have q6 := (k6.alloc (.cells #[.int .i64 0] 3))
  have hB0 := below_alloc (below_alloc (below_alloc (below_alloc (below_alloc (below_alloc (below_alloc (below_alloc (Below.refl w.heap.size w) (.cells #[.int .u64 a2] 22)) (.cells #[.int .i64 a3] 3)) (.cells #[.string ⟨#[]⟩] 9)) (.cells #[.bool false] 4)) (.cells #[.slice none 0 0] 50)) (.cells #[.string a0] 9)) (.cells #[.string ⟨#[c]⟩] 9)) (.cells #[.int .i64 0] 3)
  have hsz : ((((((((w.alloc (.cells #[.int .u64 a2] 22)).alloc (.cells #[.int .i64 a3] 3)).alloc (.cells #[.string ⟨#[]⟩] 9)).alloc (.cells #[.bool false] 4)).alloc (.cells #[.slice none 0 0] 50)).alloc (.cells #[.string a0] 9)).alloc (.cells #[.string ⟨#[c]⟩] 9)).alloc (.cells #[.int .i64 0] 3)).heap.size = w.heap.size + 8 := by simp only [World.size_alloc]
  simp only [World.size_alloc, Nat.add_assoc, Nat.reduceAdd] at q0 q1 q2 q3 q4 q5 q6 k7 ⊢
  clear k0 k1 k2 k3 k4 k5 k6
  generalize ((((((((w.alloc (.cells #[.int .u64 a2] 22)).alloc (.cells #[.int .i64 a3] 3)).alloc (.cells #[.string ⟨#[]⟩] 9)).alloc (.cells #[.bool false] 4)).alloc (.cells #[.slice none 0 0] 50)).alloc (.cells #[.string a0] 9)).alloc (.cells #[.string ⟨#[c]⟩] 9)).alloc (.cells #[.int .i64 0] 3)) = W0 at *
  refine wpIn_rangeFunc_box (F := Fence.wide) rfl (by decide) (gf := 85) (lb := #[.pointer (some ⟨w.heap.size + 6, 0, none⟩), .pointer (some ⟨w.heap.size + 5, 0, none⟩), .pointer (some ⟨w.heap.size + 7, 0, none⟩)]) rfl trivial (enters_of Tryd.func85 (by kernel_rfl) rfl)
    (splitSeq_stops 4 (by decide) (w.heap.size + 5) a0 c W0 hs q5 q6 k7) (by omega) keepsThree_t (fun W l o' h => keepsThree_b (w := W0) (by omega) W l o' h) (fun _ => rfl)
    (PI w a2 a3) (PX w a2 a3) (by rw [hsz]; exact PI_own w a2 a3) (fun c' => by rw [hsz]; exact PX_own w a2 a3 c')
    ⟨⟨[], _, rfl, q4, World.ownsRow_nil _ _ _ _⟩, q0, q1, q2, q3, hB0, by omega⟩
    (fun x => { tmps := #[.string a0, .string ⟨#[c]⟩, .int .u64 a2, .int .i64 a3, undef, undef, .pointer (some ⟨w.heap.size, 0, none⟩), .pointer (some ⟨w.heap.size + 1, 0, none⟩), .pointer (some ⟨w.heap.size + 2, 0, none⟩), .pointer (some ⟨w.heap.size + 3, 0, none⟩), .pointer (some ⟨w.heap.size + 4, 0, none⟩), .string x, undef, undef, undef, .string a0, .string ⟨#[c]⟩, .func (.func 85) #[] #[.pointer (some ⟨w.heap.size + 6, 0, none⟩), .pointer (some ⟨w.heap.size + 5, 0, none⟩), .pointer (some ⟨w.heap.size + 7, 0, none⟩)], .string x, undef, undef, undef, undef, undef, undef, undef, undef, undef, undef, undef, undef, undef, undef, undef, undef, undef, undef, undef, undef, undef, undef, undef, undef, undef, undef, undef, undef, undef, undef, undef, undef, undef, undef, undef, undef, undef, undef, undef, undef, undef, undef, undef, undef, undef, undef, undef, undef], defers := [] }) ?assign ?body ?done ?stop
  case assign =>
    intro l x W K hK
    gi_wp2
    exact hK
  case body =>
    rintro l pre x W ⟨⟨acc, v, hp, hv, hr⟩, b0, b1, b2, b3, hB, hz⟩ hpre
    have hxs := piece_le hpre
    have hlen := pFold_len _ _ _ _ _ (by simpa using h3) hp
    have d0 := b0.cell
    have d1 := b1.cell
    have d2 := b2.cell
    have d3 := b3.cell
    have e2 := b2.frozen
    have e3 := b3.frozen
    have HPre := Aside0.mk hpre
    have HP := Aside0.mk hp
    clear hpre hp
    have hfold : ∀ r, pFold a2 a3 [x] acc = r → pFold a2 a3 (pre ++ [x]) [] = r := fun r h => by rw [pFold_append, HP.out]; exact h
    have HFold := Aside0.mk hfold
    clear hfold
    rcases h2 with rfl | rfl
    · obtain ⟨hi', lo, fi, ok, hN⟩ : ∃ hi' lo fi ok, numAll 10 x.data.toList = (hi', lo, fi, ok) := ⟨_, _, _, _, rfl⟩
      have hnum := value_number.calls x 10 hi' lo fi ok W (by unfold value_number.f; rw [if_pos ⟨by omega, by decide, by decide⟩, hN])
      have HN := Aside0.mk hN
      have HC := Aside0.mk hnum
      clear hN hnum
      have NO : pieceNum 10 x = none ∨ (∃ v, pieceNum 10 x = some v ∧ (acc.length : Int) = a3) → Aside0 (pFold 10 a3 (pre ++ [x]) [] = none) := fun h => ⟨HFold.out _ (by
        rcases h with h | ⟨v, h, hl⟩
        · exact pf_no h
        · exact pf_full h hl)⟩
      cases ok
      · have N := NO (.inl (by rw [pn10 HN.out]; simp))
        clear NO
        gi_wp2_with (gi_at_call 44; refine (callsIn_wide.2 HC.out).mono ?_; rintro e w1 ⟨rfl, hb1⟩; have hg1 := below_grow hb1; have hz1 : w.heap.size + 8 ≤ w1.heap.size := Nat.le_trans hz hb1.size; have j0 := b0.kept hg1 (by simp); have j1 := b1.kept hg1 (by simp); have j2 := b2.kept hg1 (by simp); have j3 := b3.kept hg1 (by simp); have j4 := hv.kept hg1 (by simp); have l0 := j0.lt; have l1 := j1.lt; have l2 := j2.lt; have l3 := j3.lt; have l4 := j4.lt; have d0' := j0.cell; have d1' := j1.cell; have d2' := j2.cell; have d3' := j3.cell; have d4' := j4.cell; have e2' := j2.frozen; have e3' := j3.frozen; have e4' := j4.frozen; have HG1 := Aside0.mk hg1; clear hb1 hg1 d0 d1 d2 d3 e2 e3)
        exact px_close' _ hB HG1.out j2 j3 N.out
      · by_cases g1 : 3 < x.size
        · have N := NO (.inl (by rw [pn10 HN.out]; simp [g1]))
          clear NO
          gi_wp2_with (gi_at_call 44; refine (callsIn_wide.2 HC.out).mono ?_; rintro e w1 ⟨rfl, hb1⟩; have hg1 := below_grow hb1; have hz1 : w.heap.size + 8 ≤ w1.heap.size := Nat.le_trans hz hb1.size; have j0 := b0.kept hg1 (by simp); have j1 := b1.kept hg1 (by simp); have j2 := b2.kept hg1 (by simp); have j3 := b3.kept hg1 (by simp); have j4 := hv.kept hg1 (by simp); have l0 := j0.lt; have l1 := j1.lt; have l2 := j2.lt; have l3 := j3.lt; have l4 := j4.lt; have d0' := j0.cell; have d1' := j1.cell; have d2' := j2.cell; have d3' := j3.cell; have d4' := j4.cell; have e2' := j2.frozen; have e3' := j3.frozen; have e4' := j4.frozen; have HG1 := Aside0.mk hg1; clear hb1 hg1 d0 d1 d2 d3 e2 e3)
          exact px_close' _ hB HG1.out j2 j3 N.out
        · by_cases g2 : 255 < lo
          · have N := NO (.inl (by rw [pn10 HN.out]; simp [g2]))
            clear NO
            gi_wp2_with (gi_at_call 44; refine (callsIn_wide.2 HC.out).mono ?_; rintro e w1 ⟨rfl, hb1⟩; have hg1 := below_grow hb1; have hz1 : w.heap.size + 8 ≤ w1.heap.size := Nat.le_trans hz hb1.size; have j0 := b0.kept hg1 (by simp); have j1 := b1.kept hg1 (by simp); have j2 := b2.kept hg1 (by simp); have j3 := b3.kept hg1 (by simp); have j4 := hv.kept hg1 (by simp); have l0 := j0.lt; have l1 := j1.lt; have l2 := j2.lt; have l3 := j3.lt; have l4 := j4.lt; have d0' := j0.cell; have d1' := j1.cell; have d2' := j2.cell; have d3' := j3.cell; have d4' := j4.cell; have e2' := j2.frozen; have e3' := j3.frozen; have e4' := j4.frozen; have HG1 := Aside0.mk hg1; clear hb1 hg1 d0 d1 d2 d3 e2 e3)
            exact px_close' _ hB HG1.out j2 j3 N.out
          · have hpn : pieceNum 10 x = some lo := by rw [pn10 HN.out, if_neg (by simp; omega)]
            obtain ⟨A, cp, rfl, _⟩ := own_reads hr
            by_cases g3 : (acc.length : Int) = a3
            · have N := NO (.inr ⟨_, hpn, g3⟩)
              have hb3 : ((acc.length : Int) == a3) = true := beq_iff_eq.2 g3
              have HPN := Aside0.mk hpn
              have G3 := Aside0.mk g3
              clear NO hpn g3
              gi_wp2_with (gi_at_call 44; refine (callsIn_wide.2 HC.out).mono ?_; rintro e w1 ⟨rfl, hb1⟩; have hg1 := below_grow hb1; have hz1 : w.heap.size + 8 ≤ w1.heap.size := Nat.le_trans hz hb1.size; have j0 := b0.kept hg1 (by simp); have j1 := b1.kept hg1 (by simp); have j2 := b2.kept hg1 (by simp); have j3 := b3.kept hg1 (by simp); have j4 := hv.kept hg1 (by simp); have l0 := j0.lt; have l1 := j1.lt; have l2 := j2.lt; have l3 := j3.lt; have l4 := j4.lt; have d0' := j0.cell; have d1' := j1.cell; have d2' := j2.cell; have d3' := j3.cell; have d4' := j4.cell; have e2' := j2.frozen; have e3' := j3.frozen; have e4' := j4.frozen; have HG1 := Aside0.mk hg1; clear hb1 hg1 d0 d1 d2 d3 e2 e3)
              exact px_close' _ hB HG1.out j2 j3 N.out
            · have Y : Aside0 (pFold 10 a3 (pre ++ [x]) [] = some (acc ++ [lo % 256])) := ⟨HFold.out _ (pf_yes hpn g3)⟩
              have hb3 : ((acc.length : Int) == a3) = false := beq_eq_false_iff_ne.2 g3
              have hz1' := hz1
              clear NO hpn
              gi_wp2_with (first | (gi_at_call 44; refine (callsIn_wide.2 HC.out).mono ?_; rintro e w1 ⟨rfl, hb1⟩; have hg1 := below_grow hb1; have hz1 : w.heap.size + 8 ≤ w1.heap.size := Nat.le_trans hz hb1.size; have j0 := b0.kept hg1 (by simp); have j1 := b1.kept hg1 (by simp); have j2 := b2.kept hg1 (by simp); have j3 := b3.kept hg1 (by simp); have j4 := hv.kept hg1 (by simp); have l0 := j0.lt; have l1 := j1.lt; have l2 := j2.lt; have l3 := j3.lt; have l4 := j4.lt; have d0' := j0.cell; have d1' := j1.cell; have d2' := j2.cell; have d3' := j3.cell; have d4' := j4.cell; have e2' := j2.frozen; have e3' := j3.frozen; have e4' := j4.frozen; have hr1 := hr.kept hg1 (Classical.em _); have HG1 := Aside0.mk hg1; clear hb1 hg1 d0 d1 d2 d3 e2 e3) | (gi_at_builtin; (refine wpListIn_append_own _ rfl _ _ 50 rfl (w.heap.size + 8) 5 i0 (.int .u8 0) 1 1 Tryd.underlying50 hi hz0 hz1' hz2 rfl (by decide) _ _ _ rfl ((hr1.alloc _).alloc _) ⟨w1.heap.size + 1, 0, none⟩ 1 1 [.int .u8 (lo % 256)] rfl rfl (by have q_ := cell_one_new (w1.alloc (.cells #[.int .u64 hi', .int .u64 lo] 24)) (.int .u8 (lo % 256)) 5; rw [World.size_alloc] at q_; exact q_) (by simp [Value.oneCell']) (by unfold maxLen; omega) (by omega) (by simp only [World.size_alloc]; omega) ?_; intro v' w3 hown' hgrow _; obtain ⟨g', cap', rfl⟩ := ownsRow_succ hown'; have HO := Aside0.mk hown'; have HW := Aside0.mk hgrow; have jv3 := box_past (j4.alloc _) (by omega) (hr1.alloc _) hgrow; have c3 := jv3.cell; have f3 := jv3.frozen; clear hown' hgrow)))
              exact app_close hB (HG1.out.alloc_none _) hz (j0.alloc _) (j1.alloc _) (j2.alloc _) (j3.alloc _) (j4.alloc _) (hr1.alloc _) HO.out HW.out Y.out
    · by_cases hx2 : x.size = 2
      · have hne2 : ((x.size : Int) != 2) = false := by rw [hx2]; rfl
        have hq3 : ((⟨#[49]⟩ : ByteArray) ++ x).size = 3 := by rw [ByteArray.size_append, hx2]; rfl
        obtain ⟨hi', lo, fi, ok, hN⟩ : ∃ hi' lo fi ok, numAll 16 ((⟨#[49]⟩ : ByteArray) ++ x).data.toList = (hi', lo, fi, ok) := ⟨_, _, _, _, rfl⟩
        have hnum := value_number.calls ((⟨#[49]⟩ : ByteArray) ++ x) 16 hi' lo fi ok W (by unfold value_number.f; rw [if_pos ⟨by rw [ByteArray.size_append]; simp only [hx2]; decide, by decide, by decide⟩, hN])
        have HN := Aside0.mk hN
        have HC := Aside0.mk hnum
        clear hN hnum
        have NO : pieceNum 16 x = none ∨ (∃ v, pieceNum 16 x = some v ∧ (acc.length : Int) = a3) → Aside0 (pFold 16 a3 (pre ++ [x]) [] = none) := fun h => ⟨HFold.out _ (by
          rcases h with h | ⟨v, h, hl⟩
          · exact pf_no h
          · exact pf_full h hl)⟩
        cases ok
        · have N := NO (.inl (by rw [pn16 hx2 HN.out]; simp))
          clear NO
          gi_wp2_with (gi_at_call 44; refine (callsIn_wide.2 HC.out).mono ?_; rintro e w1 ⟨rfl, hb1⟩; have hg1 := below_grow hb1; have hz1 : w.heap.size + 8 ≤ w1.heap.size := Nat.le_trans hz hb1.size; have j0 := b0.kept hg1 (by simp); have j1 := b1.kept hg1 (by simp); have j2 := b2.kept hg1 (by simp); have j3 := b3.kept hg1 (by simp); have j4 := hv.kept hg1 (by simp); have l0 := j0.lt; have l1 := j1.lt; have l2 := j2.lt; have l3 := j3.lt; have l4 := j4.lt; have d0' := j0.cell; have d1' := j1.cell; have d2' := j2.cell; have d3' := j3.cell; have d4' := j4.cell; have e2' := j2.frozen; have e3' := j3.frozen; have e4' := j4.frozen; have HG1 := Aside0.mk hg1; clear hb1 hg1 d0 d1 d2 d3 e2 e3)
          exact px_close' _ hB HG1.out j2 j3 N.out
        · have hpn : pieceNum 16 x = some lo := by rw [pn16 hx2 HN.out, if_neg (by simp)]
          obtain ⟨A, cp, rfl, _⟩ := own_reads hr
          by_cases g3 : (acc.length : Int) = a3
          · have N := NO (.inr ⟨_, hpn, g3⟩)
            have hb3 : ((acc.length : Int) == a3) = true := beq_iff_eq.2 g3
            have HPN := Aside0.mk hpn
            have G3 := Aside0.mk g3
            clear NO hpn g3
            gi_wp2_with (gi_at_call 44; refine (callsIn_wide.2 HC.out).mono ?_; rintro e w1 ⟨rfl, hb1⟩; have hg1 := below_grow hb1; have hz1 : w.heap.size + 8 ≤ w1.heap.size := Nat.le_trans hz hb1.size; have j0 := b0.kept hg1 (by simp); have j1 := b1.kept hg1 (by simp); have j2 := b2.kept hg1 (by simp); have j3 := b3.kept hg1 (by simp); have j4 := hv.kept hg1 (by simp); have l0 := j0.lt; have l1 := j1.lt; have l2 := j2.lt; have l3 := j3.lt; have l4 := j4.lt; have d0' := j0.cell; have d1' := j1.cell; have d2' := j2.cell; have d3' := j3.cell; have d4' := j4.cell; have e2' := j2.frozen; have e3' := j3.frozen; have e4' := j4.frozen; have HG1 := Aside0.mk hg1; clear hb1 hg1 d0 d1 d2 d3 e2 e3)
            exact px_close' _ hB HG1.out j2 j3 N.out
          · have Y : Aside0 (pFold 16 a3 (pre ++ [x]) [] = some (acc ++ [lo % 256])) := ⟨HFold.out _ (pf_yes hpn g3)⟩
            have hb3 : ((acc.length : Int) == a3) = false := beq_eq_false_iff_ne.2 g3
            have hz1' := hz1
            clear NO hpn
            gi_wp2_with (first | (gi_at_call 44; refine (callsIn_wide.2 HC.out).mono ?_; rintro e w1 ⟨rfl, hb1⟩; have hg1 := below_grow hb1; have hz1 : w.heap.size + 8 ≤ w1.heap.size := Nat.le_trans hz hb1.size; have j0 := b0.kept hg1 (by simp); have j1 := b1.kept hg1 (by simp); have j2 := b2.kept hg1 (by simp); have j3 := b3.kept hg1 (by simp); have j4 := hv.kept hg1 (by simp); have l0 := j0.lt; have l1 := j1.lt; have l2 := j2.lt; have l3 := j3.lt; have l4 := j4.lt; have d0' := j0.cell; have d1' := j1.cell; have d2' := j2.cell; have d3' := j3.cell; have d4' := j4.cell; have e2' := j2.frozen; have e3' := j3.frozen; have e4' := j4.frozen; have hr1 := hr.kept hg1 (Classical.em _); have HG1 := Aside0.mk hg1; clear hb1 hg1 d0 d1 d2 d3 e2 e3) | (gi_at_builtin; (refine wpListIn_append_own _ rfl _ _ 50 rfl (w.heap.size + 8) 5 i0 (.int .u8 0) 1 1 Tryd.underlying50 hi hz0 hz1' hz2 rfl (by decide) _ _ _ rfl ((hr1.alloc _).alloc _) ⟨w1.heap.size + 1, 0, none⟩ 1 1 [.int .u8 (lo % 256)] rfl rfl (by have q_ := cell_one_new (w1.alloc (.cells #[.int .u64 hi', .int .u64 lo] 24)) (.int .u8 (lo % 256)) 5; rw [World.size_alloc] at q_; exact q_) (by simp [Value.oneCell']) (by unfold maxLen; omega) (by omega) (by simp only [World.size_alloc]; omega) ?_; intro v' w3 hown' hgrow _; obtain ⟨g', cap', rfl⟩ := ownsRow_succ hown'; have HO := Aside0.mk hown'; have HW := Aside0.mk hgrow; have jv3 := box_past (j4.alloc _) (by omega) (hr1.alloc _) hgrow; have c3 := jv3.cell; have f3 := jv3.frozen; clear hown' hgrow)))
            exact app_close hB (HG1.out.alloc_none _) hz (j0.alloc _) (j1.alloc _) (j2.alloc _) (j3.alloc _) (j4.alloc _) (hr1.alloc _) HO.out HW.out Y.out
      · have N : Aside0 (pFold 16 a3 (pre ++ [x]) [] = none) := ⟨HFold.out _ (pf_no (pn16_no hx2))⟩
        have hne2 : ((x.size : Int) != 2) = true := by rw [bne_iff_ne]; omega
        have l2 := b2.lt
        have l3 := b3.lt
        gi_wp2
        exact px_close hB (World.grownBy.refl _ _) b2 b3 N.out
  case done =>
    rintro D W hD ⟨⟨acc, v, hp, hv, hr⟩, b0, b1, b2, b3, hB, hz⟩ hK
    obtain ⟨A, cp, rfl, hrd⟩ := own_reads hr
    have d1 := b1.cell
    have d2 := b2.cell
    have d3 := b3.cell
    have d4 := hv.cell
    have e2 := b2.frozen
    have e3 := b3.frozen
    have hcv := string_of_reads (P := Tryd.prog) (w := W.drew) (c := cp) Tryd.underlying50 Tryd.underlying5 Tryd.underlying9 (show ReadsInt W.drew .u8 A acc.length acc from hrd)
    have HP := Aside0.mk hp
    clear hp
    gi_wp2
    gi_region
    gi_wp2
    have g2 := (b2.set (.string (strOfNums acc))).kept (grownBy_setCell' _ (w.heap.size + 3) (.bool ((acc.length : Int) == a3))) (by simp)
    have g3 := (b3.kept (grownBy_setCell' W (w.heap.size + 2) (.string (strOfNums acc))) (by simp)).set (.bool ((acc.length : Int) == a3))
    have hK2 := ((KeepsOthers.setCell W ⟨w.heap.size + 2, 0, none⟩ (.string (strOfNums acc))).trans (KeepsOthers.setCell _ ⟨w.heap.size + 3, 0, none⟩ (.bool ((acc.length : Int) == a3)))).same D _ hK rfl
    have hB2 : Below w.heap.size w (((W.setCell ⟨w.heap.size + 2, 0, none⟩ (.string (strOfNums acc))).setCell ⟨w.heap.size + 3, 0, none⟩ (.bool ((acc.length : Int) == a3))).drew) := below_drew1 (below_set (below_set hB (by omega)) (by omega))
    generalize ((W.setCell ⟨w.heap.size + 2, 0, none⟩ (.string (strOfNums acc))).setCell ⟨w.heap.size + 3, 0, none⟩ (.bool ((acc.length : Int) == a3))) = W2 at *
    refine ⟨by simp, .inl ⟨_, _, rfl, run_takeDeferred (w := W2.drew) hK2, ?_⟩⟩
    have k2 := (Boxed.kept (W := W2.drew) g2 (grownBy_putObj' W2.drew D (.deferred none)) (fun e => by cases e; rw [show W2.heap[w.heap.size + 2]? = _ from g2] at hK2; cases hK2)).cell
    have k3 := (Boxed.kept (W := W2.drew) g3 (grownBy_putObj' W2.drew D (.deferred none)) (fun e => by cases e; rw [show W2.heap[w.heap.size + 3]? = _ from g3] at hK2; cases hK2)).cell
    refine ⟨.tuple #[.string (strOfNums acc), .bool ((acc.length : Int) == a3)], ?_, by unfold pRes; rw [HP.out]; rfl, hB2.trans (belowK_b (w := w) (Nat.le_refl _) W2.drew D _ _ (by omega) hK2 rfl rfl)⟩
    simp [results, Tryd.f45, go_sem, k2, k3]
  case stop =>
    rintro D c' pre W hD hpre ⟨⟨rfl, hp⟩, b2, b3, hB⟩ hK
    have d2 := b2.cell
    have d3 := b3.cell
    have HP := Aside0.mk hp
    clear hp
    gi_wp2
    refine ⟨by simp, .inl ⟨_, _, rfl, run_takeDeferred hK, ?_⟩⟩
    have k2 := (b2.kept (grownBy_putObj' W D (.deferred none)) (fun e => by cases e; rw [show W.heap[w.heap.size + 2]? = _ from b2] at hK; cases hK)).cell
    have k3 := (b3.kept (grownBy_putObj' W D (.deferred none)) (fun e => by cases e; rw [show W.heap[w.heap.size + 3]? = _ from b3] at hK; cases hK)).cell
    have hn : pFold a2 a3 (piecesB c a0) [] = none := by
      obtain ⟨z, hz⟩ := hpre
      rw [← hz, pFold_append, HP.out]; rfl
    refine ⟨.tuple #[.string ⟨#[]⟩, .bool false], ?_, by unfold pRes; rw [hn], hB.trans (belowK_b (w := w) (Nat.le_refl _) W D _ _ (by omega) hK rfl rfl)⟩
    simp [results, Tryd.f45, go_sem, k2, k3]
theorem value_pieces.calls (a0 a1 : ByteArray) (a2 a3 : Int) (r1 : ByteArray) (r2 : Bool) (w : World) (h : value_pieces.f a0 a1 a2 a3 = some (r1, r2)) :
    Calls Tryd.prog 45 #[.string a0, .string a1, .int .u64 a2, .int .i64 a3] w fun e w' => e = .returned (.tuple #[.string r1, .bool r2]) ∧ Below w.heap.size w w' := by
  unfold value_pieces.f at h
  split at h
  · rename_i c hc
    obtain rfl : a1 = ⟨#[c]⟩ := ext_bytes (by rw [hc])
    split at h
    case isFalse => exact absurd h (by simp)
    rename_i hh
    have e : pRes c a0 a2 a3 = (r1, r2) := by
      unfold pRes
      split at h <;> rename_i hq <;> first | exact Option.some.inj h | (rw [hq]; exact Option.some.inj h)
    have := callsIn_wide.1 (pieces_go a0 c a2 a3 w hh.1 hh.2.1 hh.2.2.1 hh.2.2.2)
    rw [e] at this
    exact this
  · exact absurd h (by simp)
end Go.Proofs.YtofnhgpiipmegaaDoor.PV
