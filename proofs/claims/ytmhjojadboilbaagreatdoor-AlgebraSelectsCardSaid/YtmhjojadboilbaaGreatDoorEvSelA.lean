/- AlgebraSelects: from the walk to the row. -/
import Derived.Test.YtmhjojadboilbaaGreatDoorEvSh
import Derived.Test.YtmhjojadboilbaaGreatDoorEvLaw
import Derived.Test.YtmhjojadboilbaaGreatDoorEvWit
import Derived.Test.YtmhjojadboilbaaGreatDoorEvRow
import Derived.WalkKit
import Derived.Lib.SmallJoins
set_option linter.unusedVariables false
set_option linter.unusedSimpArgs false
set_option linter.unusedSectionVars false
namespace Go.Proofs.YtmhjojadboilbaaGreatDoor.algebraSelects
open Go.ChangeShapes Go.WideShapes Go.ChangeAt Go.RowKit

set_option maxRecDepth 100000 in
theorem contract (H : Type) (enc : TypeId × Value → H) (W : World) (base : Nat) (args : Array Value) (ds gs : List (DataW H)) (before : List MemPlace)
    (hval : ∀ (j : Nat) t v, Tryz.f5.params[j]? = some t → args[j]? = some v → Value.okWide Tryz.prog W .any base t v)
    (hW : DataW.Whole enc Tryz.prog Tryz.f5.params.toList Rows.algebraSelectsSpec.vars false W args.toList ds gs before) (hL : laidMetH Tryz.prog Rows.algebraSelectsRow.laid W) :
    Calls Tryz.prog 5 args W fun e W' => ∃ v, e = .returned v ∧ Rows.algebraSelectsSpec.post enc Tryz.prog Tryz.f5 false true false false W args v W' := by
  have hW' := hW
  obtain ⟨p, q, hA0, hV, rfl, hfz, hnd⟩ := hW
  have hA : DataW.TrodAll enc Tryz.prog W 0 (fun _ => true) true Tryz.f5.params.toList args.toList ds p := hA0
  rw [Tryz.params5] at hA hval
  obtain ⟨v0, v1, d0, d1, p0, p1, rfl, rfl, rfl, h0, h1⟩ := trodAll_two hA
  obtain ⟨rfl, rfl⟩ := trodVars_none hV
  obtain ⟨x0, x1, y0, y1, n, rfl, hd, hp, g0, g1⟩ := Joins.open_agg2 Tryz.underlying56 (by kernel_rfl) (by kernel_rfl) (hval 0 56 v0 rfl rfl) h0
  obtain ⟨a, ha, _, _⟩ := DataW.trod_int Tryz.underlying3 g0
  obtain ⟨b, hb, _, _⟩ := DataW.trod_int Tryz.underlying3 g1
  obtain ⟨t, rfl, rfl, rfl, wt⟩ := open_int Tryz.underlying3 (hval 1 3 v1 rfl rfl) h1
  obtain rfl : x0 = .int .i64 a := by simpa using ha
  obtain rfl : x1 = .int .i64 b := by simpa using hb
  have hT : Ev.Tabs W := Ev.tabs_of_laid hL
  refine (Ev.law5_ok hT a b t).mono fun e W' ⟨he, hb⟩ => ?_
  subst he
  exact ⟨_, rfl, Law.post_true hW' p_laidOut (by kernel_rfl) (by kernel_rfl) Tryz.underlying4 rfl rfl hb⟩

theorem reads (os : Os) {H : Type} (enc : TypeId × Value → H) : ∃ places, DataW.whole enc Tryz.prog ((laidWorld os).forCall (fun _ _ => 0) ⟨#[], #[.agg #[.int .i64 0, .int .i64 0], .int .i64 0], []⟩).memory Tryz.f5.params.toList Rows.algebraSelectsSpec.vars false #[Value.agg #[.int .i64 0, .int .i64 0], Value.int .i64 0].toList 8 =
    some ([.agg [.lit (.int .i64 0), .lit (.int .i64 0)], .lit (.int .i64 0)], [], places) :=
  ⟨[], by kernel_rfl⟩

set_option maxRecDepth 100000 in
theorem lifted (os : Os) (started : os.Started) (H : Type) (enc : TypeId × Value → H) (F : Stop.Interp) :
    ReturnsInHanded {} Tryz.checked os 5 .any ((OpenSpec.ofChange Rows.algebraSelectsSpec).preRow enc Tryz.prog Tryz.f5 Rows.algebraSelectsRow.domain false Rows.algebraSelectsRow.laid) (((OpenSpec.ofChange Rows.algebraSelectsSpec).at F).post enc Tryz.prog Tryz.f5 false true false false) := by
  obtain ⟨places, hx⟩ := reads os enc
  refine returnsInHanded_of_row (C := Tryz.checked) (s := OpenSpec.ofChange Rows.algebraSelectsSpec) own started (by kernel_rfl) Tryz.func5
    (witness_row_atRef (enc := enc) (C := Tryz.checked) false (laidWorld os) #[.agg #[.int .i64 0, .int .i64 0], .int .i64 0] rfl (by kernel_rfl) (by kernel_rfl) (by kernel_rfl)
      (OpenSpec.preRow_of_cond 8 hx (by kernel_rfl) (fun k hk => by cases hk) (by kernel_rfl) (laid_met os _))) ?_
  intro W base args ds gs before hval hW _ _ _ hL _ _
  exact contract H enc W base args ds gs before hval hW hL

end Go.Proofs.YtmhjojadboilbaaGreatDoor.algebraSelects
