/- Contracts of the small functions of the law AlgebraSelects. -/
import Derived.Test.YtmhjojadboilbaaGreatDoorEvStep
import Derived.Test.YtmhjojadboilbaaGreatDoorEvM
set_option linter.unusedVariables false
set_option linter.unusedSimpArgs false
set_option linter.unusedSectionVars false
namespace Go.Ev
open Go.Proofs
noncomputable section

def bodyOf (f : Func) : Code := f.body.getD .skip
theorem cells_agg (cs : Array Value) : (Value.agg cs).cells = cs := rfl
theorem cells_int (k : IntKind) (n : Int) : (Value.int k n).cells = #[.int k n] := rfl

theorem f46 : env.func 46 = some Tryz.f46 := by kernel_rfl
theorem b46 : Tryz.f46.body = some (bodyOf Tryz.f46) := by kernel_rfl
theorem slot_ev (R : Recs) (dr : Draw) (t : Int) (H : AHeap) : evCall env 9 R dr 46 #[.int .i64 t] H = some (.int .i64 (t.fdiv (2 ^ 20)), H) := by
  rw [evCall_eq (n := 5) (rs := [.tmp 2]) (args := [.int .i64 t]) f46 b46 (by kernel_rfl) (by kernel_rfl) (by simp)]
  simp only [bodyOf, Tryz.f46, Option.getD_some, evC_seq, evC_region, evC_ret, evC_skip, thenC_normal, thenC_ret, thenC_exit, regC_some, opsD_plain, opsD_guard, opsD_nil, opThen_eq, guardO_yes, guardO_tf, guardO_ft, guardO_none, contO_some, op_move, op_assign, op_box, op_load, op_fieldAddr, op_build, op_bin, op_pick, op_callF,
    ok_tmp, ok_int, ok_bool, ok_func, A_tmp, A_put, A_put_none, eval_const, eval_func, upd_apply, binR_some, binR_none, sbin_add, sbin_sub, sbin_eql, sbin_neq, sbin_lss, sbin_leq, sbin_gtr, sbin_geq, sbin_eql_bool, sbin_eql_agg, sbin_shr, sarith_shr, sarith_eql, bits_i64, valR_some, updR_some, pickR_true, pickR_false, pickR_bools,
    loadV_ptr, loadO_agg, loadO_one, faR_some, leaveC_ret, leaveC_normal, oneR_tmp, yld_eq, yldT_some, boolOf_bool, boolOf_undef, argF, cells_agg, cells_int, AHeap.get_add, AHeap.get_put, AHeap.next_add, AHeap.next_put, List.map_cons, List.map_nil, List.getElem?_cons_zero, List.getElem?_cons_succ, okArgs_nil, okArgs_cons, okPs_nil, okPs_cons, Bool.and_true, Bool.true_and,
    Nat.reduceLT, Nat.reduceEqDiff, Nat.reduceAdd, Int.reduceLE, Int.reduceToNat, Nat.min_def, Nat.reduceLeDiff, Nat.le_refl, if_true, if_false, reduceIte, cellsOf, List.drop_succ_cons, List.drop_zero, List.take_succ_cons, List.take_zero, List.getElem?_toArray, List.size_toArray, List.length_cons, List.length_nil, List.toList_toArray, Nat.zero_add, Nat.add_zero]

theorem sz56 : sz env 56 = some (true, 2) := by kernel_rfl
theorem sz3 : sz env 3 = some (false, 1) := by kernel_rfl
theorem fa66_3 : fa env 66 3 = some 3 := by kernel_rfl
theorem fa56_0 : fa env 56 0 = some 0 := by kernel_rfl
theorem fa56_1 : fa env 56 1 = some 1 := by kernel_rfl
theorem bd56 : abuild env 56 [] = some (.agg #[.int .i64 0, .int .i64 0]) := by kernel_rfl
theorem bd66 (a b : Value) : abuild env 66 [(3, .agg #[a, b])] = some (.agg #[.slice none 0 0, .slice none 0 0, .slice none 0 0, a, b, .slice none 0 0, .slice none 0 0, .slice none 0 0, .int .i64 0]) := by kernel_rfl
theorem part3 (cs : Array Value) (off : Nat) : pPart Tryz.prog 3 cs off = cs[off]? := pPart_one Tryz.underlying3 rfl cs off
theorem cmp56 (a b c d : Int) : cmpF Tryz.prog .eql 56 (.agg #[.int .i64 a, .int .i64 b]) (.agg #[.int .i64 c, .int .i64 d]) = some (.bool (a == c && b == d)) := by
  rw [cmpF_agg (r := (a == c && b == d)) rfl (by kernel_rfl) rfl rfl]
  · rfl
  · rw [pEq_struct 9999 Tryz.underlying56 (by kernel_rfl)]
    simp [pFields, part3, pEq_int 9998 Tryz.underlying3]
    by_cases e1 : a = c <;> by_cases e2 : b = d <;> simp [e1, e2]
theorem cmp4 (b c : Bool) : cmpF Tryz.prog .eql 4 (.bool b) (.bool c) = some (.bool (b == c)) := cmpF_bool Tryz.underlying4 b c
theorem i46 : (env.func 46).isSome = true := by rw [f46]; rfl
theorem f20 : env.func 20 = some Tryz.f20 := by kernel_rfl
theorem b20 : Tryz.f20.body = some (bodyOf Tryz.f20) := by kernel_rfl

theorem selects_ev {R : Recs} {dr : Draw} {t k : Int} {a b : Int} {s1 s2 s3 s4 s5 s6 s7 : Value} {H : AHeap} (hR : ∀ H, R.call 46 #[.int .i64 t] H = some (.int .i64 k, H)) :
    evCall env 9 R dr 20 #[.agg #[s1, s2, s3, .int .i64 a, .int .i64 b, s4, s5, s6, s7], .int .i64 t] H =
      some (.bool ((a == 0 && b == 0) || (decide (a ≤ k) && decide (k < b))), H.add (.cells #[s1, s2, s3, .int .i64 a, .int .i64 b, s4, s5, s6, s7] 66 none true [])) := by
  rw [evCall_eq (n := 26) (rs := [.tmp 4]) (args := [.agg #[s1, s2, s3, .int .i64 a, .int .i64 b, s4, s5, s6, s7], .int .i64 t]) f20 b20 (by kernel_rfl) (by kernel_rfl) (by simp)]
  cases h1 : (a == 0 && b == 0) <;> cases h2 : decide (a ≤ k) <;>
  simp only [bodyOf, Tryz.f20, Option.getD_some, hR, sz56, sz3, fa66_3, fa56_0, fa56_1, bd56, bd66, cmp56, i46, h1, h2, Bool.true_or, Bool.false_or, Bool.true_and, Bool.false_and, Bool.false_eq_true, evC_seq, evC_region, evC_ret, evC_skip, thenC_normal, thenC_ret, thenC_exit, regC_some, opsD_plain, opsD_guard, opsD_nil, opThen_eq, guardO_yes, guardO_tf, guardO_ft, guardO_none, contO_some, op_move, op_assign, op_box, op_load, op_fieldAddr, op_build, op_bin, op_pick, op_callF,
    ok_tmp, ok_int, ok_bool, ok_func, A_tmp, A_put, A_put_none, eval_const, eval_func, upd_apply, binR_some, binR_none, sbin_add, sbin_sub, sbin_eql, sbin_neq, sbin_lss, sbin_leq, sbin_gtr, sbin_geq, sbin_eql_bool, sbin_eql_agg, sbin_shr, sarith_shr, sarith_eql, bits_i64, valR_some, updR_some, pickR_true, pickR_false, pickR_bools,
    loadV_ptr, loadO_agg, loadO_one, faR_some, leaveC_ret, leaveC_normal, oneR_tmp, yld_eq, yldT_some, boolOf_bool, boolOf_undef, argF, cells_agg, cells_int, AHeap.get_add, AHeap.get_put, AHeap.next_add, AHeap.next_put, List.map_cons, List.map_nil, List.getElem?_cons_zero, List.getElem?_cons_succ, okArgs_nil, okArgs_cons, okPs_nil, okPs_cons, Bool.and_true, Bool.true_and,
    Nat.reduceLT, Nat.reduceEqDiff, Nat.reduceAdd, Int.reduceLE, Int.reduceToNat, Nat.min_def, Nat.reduceLeDiff, Nat.le_refl, if_true, if_false, reduceIte, cellsOf, List.drop_succ_cons, List.drop_zero, List.take_succ_cons, List.take_zero, List.getElem?_toArray, List.size_toArray, List.length_cons, List.length_nil, List.toList_toArray, Nat.zero_add, Nat.add_zero]
end
end Go.Ev
