/- What known() comes to wherever the tables of the row lie: true, and no old memory is turned. -/
import Derived.Test.YtmhjojadboilbaaGreatDoorEvZD
import Derived.Test.YtmhjojadboilbaaGreatDoorEvStep
import Derived.Test.YtmhjojadboilbaaGreatDoorRows
set_option linter.unusedVariables false
set_option linter.unusedSimpArgs false
set_option linter.unusedSectionVars false
namespace Go.Ev
open Go.Proofs Go.Proofs.YtmhjojadboilbaaGreatDoor Go.RowKit
noncomputable section

/-- What all rows of this seat list. -/
abbrev laidAll : List (String × DataW Unit) := Rows.algebraSelectsRow.laid

theorem hmix : PP.follows .mixedOrders = true := Tryz.checked.mixed

theorem heap_g {w : World} {name : String} {g : Nat} {d : DataW Unit} {ps : List MemPlace} (hl : DataW.LaidVars Tryz.prog w laidAll ps) (hm : (name, d) ∈ laidAll) (hg : Tryz.prog.globalNamed name = some g) : g < w.heap.size := by
  obtain ⟨g', t, cs, fuel, p, e1, e2, e3, e4⟩ := laidVars_mem hl _ hm
  obtain rfl := Option.some.inj (hg.symm.trans e1)
  obtain ⟨tt, fz, hh⟩ := var?_heap e1 e3
  exact (Array.getElem?_eq_some_iff.1 hh).1

theorem gRel : Tryz.prog.globalNamed "sleuth/syntax.relationNames" = some 0 := by kernel_rfl
theorem gAgg : Tryz.prog.globalNamed "sleuth/syntax.aggregateNames" = some 1 := by kernel_rfl
theorem gAsc : Tryz.prog.globalNamed "strings.asciiSpace" = some 2 := by kernel_rfl
theorem gTight : Tryz.prog.globalNamed "sleuth/syntax.tight" = some 3 := by kernel_rfl
theorem gClosing : Tryz.prog.globalNamed "sleuth/syntax.closing" = some 4 := by kernel_rfl
theorem g8 : ∃ name, name ∈ laidAll.map (·.1) ∧ Tryz.prog.globalNamed name = some 8 := ⟨"math/bits.deBruijn64tab", by simp [laidAll, Rows.algebraSelectsRow], by kernel_rfl⟩
theorem tRel : (Tryz.prog.globals[0]?).map (·.type) = some 45 := by kernel_rfl
theorem tAgg : (Tryz.prog.globals[1]?).map (·.type) = some 45 := by kernel_rfl
theorem tAsc : (Tryz.prog.globals[2]?).map (·.type) = some 403 := by kernel_rfl
theorem tTight : (Tryz.prog.globals[3]?).map (·.type) = some 45 := by kernel_rfl
theorem tClosing : (Tryz.prog.globals[4]?).map (·.type) = some 45 := by kernel_rfl
theorem c9 : Tryz.prog.cellsOf 9 = 1 := by kernel_rfl
theorem c5 : Tryz.prog.cellsOf 5 = 1 := by kernel_rfl
theorem c403 : Tryz.prog.cellsOf 403 = 256 := by kernel_rfl

/-- The tables lie in a world. -/
structure Tabs (w : World) : Prop where
  s0 : StrsIs w 0 relationNames
  s1 : StrsIs w 1 aggregateNames
  s2 : CellsIs w 2 (asciiTab.map (Value.int .u8))
  s3 : StrsIs w 3 tight
  s4 : StrsIs w 4 closing
  size : 8 < w.heap.size

set_option maxRecDepth 100000 in
/-- The tables, read off what the row lists. -/
theorem tabs_of_laid {w : World} (h : laidMet Tryz.prog laidAll w) : Tabs w := by
  obtain ⟨ps, hl, -⟩ := h
  have h8 : 8 < w.heap.size := by
    obtain ⟨name, hm, hg⟩ := g8
    obtain ⟨x, hx, rfl⟩ := List.mem_map.1 hm
    exact heap_g hl (name := x.1) (d := x.2) hx hg
  exact ⟨strsIs_of_laid hl (List.mem_of_getElem? (i := 7) rfl) (by simp [relationNames]) gRel tRel Tryz.underlying45 Tryz.underlying9 c9,
    strsIs_of_laid hl (List.mem_of_getElem? (i := 8) rfl) (by simp [aggregateNames]) gAgg tAgg Tryz.underlying45 Tryz.underlying9 c9,
    cellsIs_of_laid hl (List.mem_of_getElem? (i := 4) rfl) gAsc tAsc Tryz.underlying403 Tryz.underlying5 c5 c403,
    strsIs_of_laid hl (List.mem_of_getElem? (i := 5) rfl) (by simp [tight]) gTight tTight Tryz.underlying45 Tryz.underlying9 c9,
    strsIs_of_laid hl (List.mem_of_getElem? (i := 6) rfl) (by simp [closing]) gClosing tClosing Tryz.underlying45 Tryz.underlying9 c9, h8⟩

theorem asciiFlat : (asciiTab.map (Value.int .u8)).all flat = true := by decide +kernel

/-- The tables lie in the evaluator's memory. -/
structure TabsIn (t : Nat → TypeId) (H : AHeap) : Prop where
  v0 : H.get 0 = some (strsVar 10 relationNames (t 0))
  r0 : H.get 10 = some (strsRow relationNames (t 1))
  v1 : H.get 1 = some (strsVar 11 aggregateNames (t 2))
  r1 : H.get 11 = some (strsRow aggregateNames (t 3))
  v2 : H.get 2 = some (cellsVar (asciiTab.map (Value.int .u8)) (t 4))
  v3 : H.get 3 = some (strsVar 12 tight (t 5))
  r3 : H.get 12 = some (strsRow tight (t 6))
  v4 : H.get 4 = some (strsVar 13 closing (t 7))
  r4 : H.get 13 = some (strsRow closing (t 8))

theorem TabsIn.tabs {t : Nat → TypeId} {H : AHeap} {ν : Ren} {w : World} (h : TabsIn t H) (hr : HRel nG ν H w) : Tabs w := by
  refine ⟨strs_of_hrel hr (by decide) h.v0 h.r0, strs_of_hrel hr (by decide) h.v1 h.r1, cells_of_hrel hr (by decide) asciiFlat h.v2, strs_of_hrel hr (by decide) h.v3 h.r3, strs_of_hrel hr (by decide) h.v4 h.r4, ?_⟩
  obtain ⟨l, h1, h2, -⟩ := hr.glob 8 (by decide)
  have := hr.block 8 l h1
  omega

theorem H0_tabs (t : Nat → TypeId) : TabsIn t (H0 t) := by
  constructor <;> simp [H0, heapOf]

theorem hrel {w : World} (h : Tabs w) : ∃ ν t, HRel nG ν (H0 t) w := by
  obtain ⟨l0, k0, a0, b0, p0, q0, r0, u0, f0⟩ := strs_orel h.s0
  obtain ⟨l1, k1, a1, b1, p1, q1, r1, u1, f1⟩ := strs_orel h.s1
  obtain ⟨l2, a2, p2, q2, r2, f2⟩ := cells_orel asciiFlat h.s2
  obtain ⟨l3, k3, a3, b3, p3, q3, r3, u3, f3⟩ := strs_orel h.s3
  obtain ⟨l4, k4, a4, b4, p4, q4, r4, u4, f4⟩ := strs_orel h.s4
  have h8 := h.size
  let xs : List ((Nat × Loc) × AObj) := [((0, l0), strsVar 10 relationNames a0), ((10, k0), strsRow relationNames b0), ((1, l1), strsVar 11 aggregateNames a1), ((11, k1), strsRow aggregateNames b1),
    ((2, l2), cellsVar (asciiTab.map (Value.int .u8)) a2), ((3, l3), strsVar 12 tight a3), ((12, k3), strsRow tight b3), ((4, l4), strsVar 13 closing a4), ((13, k4), strsRow closing b4)]
  let ys : List (Nat × Loc) := [(5, ⟨5, 0, none, 0⟩), (6, ⟨6, 0, none, 0⟩), (7, ⟨7, 0, none, 0⟩), (8, ⟨8, 0, none, 0⟩)]
  let t : Nat → TypeId := fun i => match i with
    | 0 => a0 | 1 => b0 | 2 => a1 | 3 => b1 | 4 => a2 | 5 => a3 | 6 => b3 | 7 => a4 | _ => b4
  refine ⟨nuOf (xs.map (·.1) ++ ys), t, ?_⟩
  refine hrel_dead (next := 14) xs ys ?_ ?_ ?_ ?_ ?_
  · simp [xs, ys]
  · simp [xs, strsVar, strsRow, cellsVar, AObj.live]
  · simp only [xs, ys, List.map_cons, List.map_nil, List.cons_append, List.nil_append, List.forall_mem_cons, List.not_mem_nil, false_implies, implies_true, and_true]
    exact ⟨r0, u0, r1, u1, r2, r3, u3, r4, u4, by omega, by omega, by omega, by omega⟩
  · simp only [xs, List.forall_mem_cons, List.not_mem_nil, false_implies, implies_true, and_true]
    exact ⟨(f0 _ 10 rfl).1, (f0 _ 10 rfl).2, (f1 _ 11 rfl).1, (f1 _ 11 rfl).2, f2 _, (f3 _ 12 rfl).1, (f3 _ 12 rfl).2, (f4 _ 13 rfl).1, (f4 _ 13 rfl).2⟩
  · intro g hg
    match g, hg with
    | 0, _ => exact ⟨l0, rfl, p0, q0⟩
    | 1, _ => exact ⟨l1, rfl, p1, q1⟩
    | 2, _ => exact ⟨l2, rfl, p2, q2⟩
    | 3, _ => exact ⟨l3, rfl, p3, q3⟩
    | 4, _ => exact ⟨l4, rfl, p4, q4⟩
    | 5, _ => exact ⟨_, rfl, rfl, rfl⟩
    | 6, _ => exact ⟨_, rfl, rfl, rfl⟩
    | 7, _ => exact ⟨_, rfl, rfl, rfl⟩
    | 8, _ => exact ⟨_, rfl, rfl, rfl⟩

theorem H0_dead (t : Nat → TypeId) : ∀ n o, (H0 t).get n = some o → o.live = false := by
  intro n o h
  have := dead_of_dead (next := 14) [((0, ⟨0, 0, none, 0⟩), strsVar 10 relationNames (t 0)), ((10, ⟨0, 0, none, 0⟩), strsRow relationNames (t 1)), ((1, ⟨0, 0, none, 0⟩), strsVar 11 aggregateNames (t 2)), ((11, ⟨0, 0, none, 0⟩), strsRow aggregateNames (t 3)),
    ((2, ⟨0, 0, none, 0⟩), cellsVar (asciiTab.map (Value.int .u8)) (t 4)), ((3, ⟨0, 0, none, 0⟩), strsVar 12 tight (t 5)), ((12, ⟨0, 0, none, 0⟩), strsRow tight (t 6)), ((4, ⟨0, 0, none, 0⟩), strsVar 13 closing (t 7)), ((13, ⟨0, 0, none, 0⟩), strsRow closing (t 8))]
    (by simp [strsVar, strsRow, cellsVar, AObj.live]) n o
  exact this h

/-- **known() returns true, on every tape and in every order, and turns no old memory.** -/
theorem known_ok {w : World} (h : Tabs w) : Calls Tryz.prog 13 #[] w fun e w' => e = .returned (.bool true) ∧ Below w.heap.size w w' ∧ ∀ b, fzOf w' b = fzOf w b := by
  obtain ⟨ν, t, hr⟩ := hrel h
  have hrun : isTrue ((fv 4000).call 13 #[] (H0 t)) = true := congrFun known_run t
  obtain ⟨H', hv⟩ := isTrue_some hrun
  have hnext : nG ≤ (H0 t).next := by
    show 9 ≤ (heapOf 14 _).next
    rw [heapOf_next]; omega
  refine (callsIn_wide.1 (fv_ok hmix hv hr hnext (ARel.empty ν))).mono fun e w' hq => ?_
  obtain ⟨ν', v', he, hvr, _, hl⟩ := hq
  cases hvr
  exact ⟨he, below_of_later hl (H0_dead t), hl.froz⟩

/-- The same over any memory that holds the tables. -/
theorem known_sound {t : Nat → TypeId} {H : AHeap} (h : TabsIn t H) : Sound PP nG 13 #[] H (.bool true) H := by
  intro ν w args' hr hG ha
  obtain rfl : args' = #[] := by
    have := ha.1
    exact Array.eq_empty_of_size_eq_zero this.symm
  refine (callsIn_wide.2 (known_ok (h.tabs hr))).mono fun e w' hq => ?_
  obtain ⟨he, hb, hz⟩ := hq
  exact ⟨ν, .bool true, he, .bool true, hrel_below hr hb, later_below hr hb hz⟩
end
end Go.Ev
