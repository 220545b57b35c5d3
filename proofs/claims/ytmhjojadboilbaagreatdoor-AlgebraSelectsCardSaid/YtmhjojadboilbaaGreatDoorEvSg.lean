/- The law AlgebraSelects, evaluated. -/
import Derived.Test.YtmhjojadboilbaaGreatDoorEvSf
import Derived.Test.YtmhjojadboilbaaGreatDoorEvZE
set_option linter.unusedVariables false
set_option linter.unusedSimpArgs false
set_option linter.unusedSectionVars false
namespace Go.Ev
open Go.Proofs
noncomputable section

/-- The regions of a function, in the order of its text. -/
def regsOf : Code → List (Array Oper)
  | .region _ ops _ => [ops]
  | .seq x y => regsOf x ++ regsOf y
  | .cond _ x y => regsOf x ++ regsOf y
  | .block _ c => regsOf c
  | .loop c => regsOf c
  | .rangeFunc _ _ x y => regsOf x ++ regsOf y
  | _ => []
def rg (f : Func) (k : Nat) : Array Oper := (regsOf (bodyOf f)).getD k #[]

theorem f5 : env.func 5 = some Tryz.f5 := by kernel_rfl
theorem b5 : Tryz.f5.body = some (bodyOf Tryz.f5) := by kernel_rfl
theorem i13 : (env.func 13).isSome = true := by kernel_rfl
theorem i20 : (env.func 20).isSome = true := by kernel_rfl
theorem d5_2 : drawable (rg Tryz.f5 2) = true := by kernel_rfl
theorem a5_2 : ancOf (rg Tryz.f5 2) = #[0, 1, 3, 7, 3, 31, 3, 3, 195, 511, 1023, 2047, 1023, 8191, 16383, 32767, 32767, 98303, 262143, 524287, 1048575, 2097151, 4194303, 8388607] := by kernel_rfl
theorem n5_2 : (rg Tryz.f5 2).size = 24 := by kernel_rfl
theorem o5_2 : (List.range 24).map (ordered (rg Tryz.f5 2) #[0, 1, 3, 7, 3, 31, 3, 3, 195, 511, 1023, 2047, 1023, 8191, 16383, 32767, 32767, 98303, 262143, 524287, 1048575, 2097151, 4194303, 8388607]) =
    [false, true, true, true, true, false, false, false, false, true, true, true, true, true, true, true, true, true, true, true, true, true, true, true] := by kernel_rfl

theorem TabsIn.add {ty : Nat → TypeId} {H : AHeap} (h : TabsIn ty H) (hN : 14 ≤ H.next) (o : AObj) : TabsIn ty (H.add o) := by
  constructor <;> rw [AHeap.get_add, if_neg (by omega)]
  · exact h.v0
  · exact h.r0
  · exact h.v1
  · exact h.r1
  · exact h.v2
  · exact h.v3
  · exact h.r3
  · exact h.v4
  · exact h.r4
theorem TabsIn.bump {ty : Nat → TypeId} {H : AHeap} (h : TabsIn ty H) (n : Nat) : TabsIn ty (bump H n) := ⟨h.v0, h.r0, h.v1, h.r1, h.v2, h.v3, h.r3, h.v4, h.r4⟩

theorem isTrue_bool (b : Bool) (H : AHeap) : isTrue (some (.bool b, H)) = b := by cases b <;> rfl

theorem law5_ev {R : Recs} {a b t : Int} {H : AHeap} {ty : Nat → TypeId} (hT : TabsIn ty H) (hN : 14 ≤ H.next) (h13 : ∀ H, TabsIn ty H → R.call 13 #[] H = some (.bool true, H))
    (h20 : ∀ H, R.call 20 #[.agg #[.slice none 0 0, .slice none 0 0, .slice none 0 0, .int .i64 a, .int .i64 b, .slice none 0 0, .slice none 0 0, .slice none 0 0, .int .i64 0], .int .i64 t] H =
      some (.bool ((a == 0 && b == 0) || (decide (a ≤ t.fdiv (2 ^ 20)) && decide (t.fdiv (2 ^ 20) < b))),
        H.add (.cells #[.slice none 0 0, .slice none 0 0, .slice none 0 0, .int .i64 a, .int .i64 b, .slice none 0 0, .slice none 0 0, .slice none 0 0, .int .i64 0] 66 none true []))) :
    isTrue (evCall env 9 R (evDraw env 9 R) 5 #[.agg #[.int .i64 a, .int .i64 b], .int .i64 t] H) = true := by
  rw [evCall_eq (n := 31) (rs := [.tmp 4]) (args := [.agg #[.int .i64 a, .int .i64 b], .int .i64 t]) f5 b5 (by kernel_rfl) (by kernel_rfl) (by simp)]
  have hD := fun x y => evDraw_eq (E := env) (G := 9) (R := R) d5_2 a5_2 n5_2 o5_2 x y
  simp only [rg, regsOf, bodyOf, Tryz.f5, Option.getD_some, List.cons_append, List.nil_append, List.getD_eq_getElem?_getD, List.getElem?_cons_succ, List.getElem?_cons_zero, List.toList_toArray, List.map_cons, List.map_nil] at hD
  have h13' := h13 (Ev.bump (H.add (.cells #[.int .i64 a, .int .i64 b] 56 none true [])) 24) ((hT.add hN _).bump 24)
  have hv : veq 3 (.agg #[.int .i64 a, .int .i64 b]) (.agg #[.int .i64 a, .int .i64 b]) = true := by simp [veq]
  have hne : ∀ k, (H.next = H.next + 1 + k) = False := fun k => by simp; omega
  simp only [Nat.reducePow, Int.reducePow] at h20
  cases h1 : (a == 0 && b == 0) <;> cases h2 : decide (a ≤ t.fdiv 1048576) <;> cases h3 : decide (t.fdiv 1048576 < b) <;>
  simp only [bodyOf, Tryz.f5, hD, h13', h20, hne, hv, isTrue_bool,  i13, i20, sz56, sz3, fa56_0, fa56_1, bd56, bd66, cmp56, cmp4, h1, h2, h3, Int.reducePow, evC_seq, evC_region, evC_ret, evC_skip, thenC_normal, thenC_ret, thenC_exit, regC_some, opsD_plain, opsD_guard, opsD_nil, opThen_eq, guardO_yes, guardO_tf, guardO_ft, guardO_none, contO_some, op_move, op_assign, op_box, op_load, op_fieldAddr, op_build, op_bin, op_pick, op_callF,
    ok_tmp, ok_int, ok_bool, ok_func, A_tmp, A_put, A_put_none, eval_const, eval_func, upd_apply, binR_some, binR_none, sbin_add, sbin_sub, sbin_eql, sbin_neq, sbin_lss, sbin_leq, sbin_gtr, sbin_geq, sbin_eql_bool, sbin_eql_agg, sbin_shr, sarith_shr, sarith_eql, bits_i64, valR_some, updR_some, pickR_true, pickR_false, pickR_bools,
    loadV_ptr, loadO_agg, loadO_one, faR_some, leaveC_ret, leaveC_normal, oneR_tmp, yld_eq, yldT_some, boolOf_bool, boolOf_undef, argF, cells_agg, cells_int, AHeap.get_add, AHeap.get_put, AHeap.next_add, AHeap.next_put, List.map_cons, List.map_nil, List.getElem?_cons_zero, List.getElem?_cons_succ, okArgs_nil, okArgs_cons, okPs_nil, okPs_cons, Bool.and_true, Bool.true_and,
    Nat.reduceLT, Nat.reduceEqDiff, Nat.reduceAdd, Int.reduceLE, Int.reduceToNat, Nat.min_def, Nat.reduceLeDiff, Nat.le_refl, if_true, if_false, reduceIte, cellsOf, List.drop_succ_cons, List.drop_zero, List.take_succ_cons, List.take_zero, List.getElem?_toArray, List.size_toArray, List.length_cons, List.length_nil, List.toList_toArray, Nat.zero_add, Nat.add_zero,
    evC_draw, finD_some, goD_plain, goD_guard, goD_nil, kD_eq, guardD_yes, guardD_tf, guardD_ft, guardD_none, thenD_some, skipR_eq, kindR_calm, kindR_still, kindR_fresh, kindR_acts, calmR_some, stillR_true, stillR_false, freshR_some, actsR_true, heapAt_nil, heapAt_cons, absorbed_nil0, absorbed_cons0, sameR_some, kindOf, callKind, get_bump, next_bump,
    stillsOk, stillOk, newsOk, notActs, List.all_cons, List.all_nil, List.any_cons, List.any_nil, List.contains_cons, List.contains_nil, Array.getD_eq_getD_getElem?, List.getD_eq_getElem?_getD, Option.getD_some, Nat.testBit_eq_decide_div_mod_eq, Nat.reducePow, Nat.reduceDiv, Nat.reduceMod, decide_true, decide_false, Bool.or_true, Bool.true_or, Bool.or_false, Bool.false_or, Bool.and_true, Bool.true_and, Bool.and_false, Bool.false_and, Bool.not_true, Bool.not_false, Nat.reduceBEq, beq_self_eq_true, Bool.false_eq_true]
end
end Go.Ev
