/- What this seat's rows share: the listed tables give the digits; a world that holds what is listed; the row's end over 'Below'. -/
import Derived.Test.YtofnhgpiipmegaaDoorCards
import Derived.Test.YtofnhgpiipmegaaDoorTie
import Derived.Test.YtofnhgpiipmegaaDoorG
import Derived.Test.YtofnhgpiipmegaaDoorHAdd
import Derived.WalkKit
import Derived.ProofKit
import Derived.OpenShut
import Derived.Deep.DeepHandedRow
import Derived.Lib.LaidTab
import Derived.Lib.SmallJoins
import Derived.Stop.LaidErr
import Derived.Lay
import Derived.MakeChecks
namespace Go.Proofs.YtofnhgpiipmegaaDoor.PV
open Go.ChangeShapes Go.WideShapes Go.ChangeAt Go.RowKit
/-- The end of a row whose law answers true and turns nothing that was there. -/
theorem post_of_below {H : Type} {enc : TypeId × Value → H} {P : Program} {f : Func} {s : ChangeSpec} {apart fresh handsOn : Bool} {W W' : World} {args : Array Value} {v : Value} {ds gs : List (DataW H)} {before pr pa pv : List MemPlace}
    (hW : DataW.Whole enc P f.params.toList s.vars apart W args.toList ds gs before)
    (hres : DataW.TrodAll enc P W' (match fresh with | true => W.heap.size | false => 0) (fun _ => false) handsOn f.resultTypes.toList (v.resultList f.resultTypes.size) (s.fn H (ds ++ gs)).results pr)
    (hargs : DataW.TrodAll enc P W' 0 (fun b => decide (b < W.heap.size)) true f.params.toList args.toList (s.fn H (ds ++ gs)).args pa)
    (hvars : DataW.TrodVars enc P W' (fun b => decide (b < W.heap.size)) s.vars (s.fn H (ds ++ gs)).vars pv)
    (hps : ∀ p ∈ before, p ∈ pa ∨ p ∈ pv) (hb : Below W.heap.size W W') : s.post enc P f apart fresh handsOn false W args v W' :=
  ⟨ds, gs, before, pr, pa, pv, hW, hres, hargs, hvars, World.keptBut_mono (fun p hp => ⟨hp, Or.inr (hps p hp)⟩) (hb.frame _), fun h => by cases h⟩
/-- The seat's list. -/
def theList : List (String × DataW Unit) := [("unicode/utf8.acceptRanges", Rows.laid_unicode_utf8_acceptRanges), ("turnout/value.signs", Rows.laid_turnout_value_signs), ("unicode/utf8.first", Rows.laid_unicode_utf8_first)]
theorem own : ownKnob Tryd.prog.godebug = none := by kernel_rfl
theorem list_plain (w : World) : laidMetH Tryd.prog theList w = laidMet Tryd.prog theList w := MakeChecks.laidMetH_plain _ _ _ (by kernel_rfl)
theorem gSigns : Tryd.prog.globalNamed "turnout/value.signs" = some 0 := by kernel_rfl
theorem gSignsType : (Tryd.prog.globals[0]?).map (·.type) = some 48 := by kernel_rfl
theorem u48 : Tryd.prog.underlying 48 = some (.array 16 5) := by kernel_rfl
theorem u5 : Tryd.prog.underlying 5 = some (.int .u8) := by kernel_rfl
theorem cells5 : Tryd.prog.cellsOf 5 = 1 := by kernel_rfl
theorem cells48 : Tryd.prog.cellsOf 48 = 16 := by kernel_rfl
/-- What the list gives. -/
theorem globals_of {w : World} (h : laidMetH Tryd.prog theList w) : GlobalsAt w := by
  rw [list_plain] at h
  have ht : Lib.TabIs Tryd.prog w "turnout/value.signs" .u8 signsL := Lib.tabIs_of_head gSigns gSignsType u48 u5 cells5 cells48 h.tail
  exact fun i hi => ht.cell gSigns i hi
/-- A world that holds what is listed. -/
noncomputable def laidWorld (os : Os) : World := World.laidAll Tryd.prog os theList
theorem laid_met (os : Os) (args : Array Value) : laidMet Tryd.prog theList ((laidWorld os).forCall (fun _ _ => 0) ⟨#[], args, []⟩).memory :=
  laidMet_laidAll args (by kernel_rfl) (by kernel_rfl)
theorem laid_metH (os : Os) (args : Array Value) : laidMetH Tryd.prog theList ((laidWorld os).forCall (fun _ _ => 0) ⟨#[], args, []⟩).memory := by
  rw [list_plain]; exact laid_met os args
theorem laid_shaped (os : Os) (args : Array Value) : ((laidWorld os).forCall (fun _ _ => 0) ⟨#[], args, []⟩).Shaped Tryd.prog := World.shaped_of_ZipB (by kernel_rfl) (by kernel_rfl)
theorem u24 : ∃ f0 f1 : Field, Tryd.prog.underlying 24 = some (.struct #[f0, f1]) ∧ Go.Deep.oneCellFields Tryd.prog #[f0, f1] = true ∧ Tryd.prog.underlying f0.type = some (.int .u64) ∧ Tryd.prog.underlying f1.type = some (.int .u64) :=
  ⟨_, _, Tryd.underlying24, by kernel_rfl, by kernel_rfl, by kernel_rfl⟩
theorem cells24 : Tryd.prog.cellsOf 24 = 2 := by kernel_rfl
theorem u3 : Tryd.prog.underlying 3 = some (.int .i64) := by kernel_rfl
theorem u4 : Tryd.prog.underlying 4 = some .bool := by kernel_rfl
theorem wf_inU {x : Int} (h : (Lit.int .u64 x).wf = true) : inU x = true := by
  have e0 : IntKind.u64.min = 0 := rfl
  have e1 : IntKind.u64.max = 18446744073709551615 := by decide
  simp only [Lit.wf, e0, e1, Bool.and_eq_true, decide_eq_true_eq] at h
  unfold inU; simp only [Bool.and_eq_true, decide_eq_true_eq]; omega
set_option maxRecDepth 100000 in
/-- A number of 128 bits, by value, opened. -/
theorem open_bits {H : Type} {enc : TypeId × Value → H} {W : World} {base : Nat} {sp : Nat → Bool} {held : Bool} {r : Reach} {b0 : Nat} {v : Value} {d : DataW H} {p : List MemPlace} (hv : Value.okWide Tryd.prog W r b0 24 v) (h : DataW.Trod enc Tryd.prog W base sp held 24 v d p) :
    ∃ x y : Int, v = .agg #[.int .u64 x, .int .u64 y] ∧ d = .agg [.lit (.int .u64 x), .lit (.int .u64 y)] ∧ p = [] ∧ (Lit.int .u64 x).wf = true ∧ (Lit.int .u64 y).wf = true := by
  obtain ⟨f0, f1, hs, hone, t0, t1⟩ := u24
  have c24 : Tryd.prog.cellsOf 24 = 2 := cells24
  have hh := Joins.open_agg2 (P := Tryd.prog) (t := 24) (f0 := f0) (f1 := f1) hs hone c24
    hv
    h
  obtain ⟨v0, v1, y0, y1, n, rfl, rfl, rfl, h0, h1⟩ := hh
  obtain ⟨x, e0, hx0, w0⟩ := DataW.trod_int t0 h0
  obtain ⟨y, e1, hx1, w1⟩ := DataW.trod_int t1 h1
  simp only [List.cons.injEq, and_true] at e0 e1
  subst e0; subst e1
  exact ⟨x, y, rfl, by rw [hx0, hx1], by rw [hx0, hx1]; rfl, w0, w1⟩
theorem shut_bits {H : Type} {enc : TypeId × Value → H} {W : World} {base : Nat} {sp : Nat → Bool} {held : Bool} {x y : Int} (h0 : (Lit.int .u64 x).wf = true) (h1 : (Lit.int .u64 y).wf = true) :
    DataW.Trod enc Tryd.prog W base sp held 24 (.agg #[.int .u64 x, .int .u64 y]) (.agg [.lit (.int .u64 x), .lit (.int .u64 y)]) [] := by
  obtain ⟨f0, f1, hs, hone, t0, t1⟩ := u24
  exact Joins.shut_agg2 (y0 := (.lit (.int .u64 x), [])) (y1 := (.lit (.int .u64 y), [])) hs hone cells24 (shut_int t0 h0) (shut_int t1 h1)
/-- 'There is an input that fits', at the world that holds the list. -/
theorem witness_zip {H : Type} {enc : TypeId × Value → H} (os : Os) {f : FuncId} {fn : Func} {s : OpenSpec} {conds : List PathCond} {apart : Bool} {laid : List (String × DataW Unit)} (args : Array Value)
    (hok : Input.okWideB Tryd.checked.prog ((laidWorld os).forCall (fun _ _ => 0) ⟨#[], args, []⟩) f ⟨#[], args, []⟩ = true)
    (hrow : s.preRow enc Tryd.checked.prog fn conds apart laid ((laidWorld os).forCall (fun _ _ => 0) ⟨#[], args, []⟩).memory args) :
    ∃ (w : World) (tape : Tape) (i : Input), w.os = os ∧ (w.forCall tape i).Shaped Tryd.checked.prog ∧ i.vars = [] ∧ Input.okWide Tryd.checked.prog (w.forCall tape i) .any w.heap.size f i ∧
      s.preRow enc Tryd.checked.prog fn conds apart laid (w.forCall tape i).memory i.args ∧ ({} : Assume).holds Tryd.checked.prog (lone (Frame.enter Tryd.checked.prog f i.args .normal) [] (w.forCall tape i)) :=
  ⟨laidWorld os, fun _ _ => 0, ⟨#[], args, []⟩, World.laidAll_os _ _ _, laid_shaped os args, (Input.okWide_of_okWideB (base := 0) hok).1, (Input.okWide_of_okWideB hok).2, hrow, by
    simp only [Assume.holds]
    exact ⟨by simp, by simp, fun _ => Modest.zero, by simp, by simp⟩⟩
end Go.Proofs.YtofnhgpiipmegaaDoor.PV
