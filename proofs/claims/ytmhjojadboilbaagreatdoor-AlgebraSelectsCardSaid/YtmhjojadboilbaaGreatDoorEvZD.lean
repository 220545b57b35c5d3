/- The memory of the tables that a row lists, as the evaluator has it; and what a run leaves to a caller. -/
import Derived.Test.YtmhjojadboilbaaGreatDoorEvFast
import Derived.Test.YtmhjojadboilbaaGreatDoorEvH0
import Derived.Deep.Strs
import Derived.Lib.LaidTab
import Derived.Carry
set_option linter.unusedVariables false
set_option linter.unusedSimpArgs false
set_option linter.unusedSectionVars false
namespace Go.Ev
open Go.RowKit
noncomputable section

/-! ### What a run leaves -/

theorem below_of_later {ν ν' : Ren} {H H' : AHeap} {w w' : World} (h : Later ν H w ν' H' w') (dead : ∀ n o, H.get n = some o → o.live = false) : Below w.heap.size w w' :=
  ⟨h.os, h.tape, h.output, h.size, fun b hb => h.frame b hb fun m o l hm hl => by rw [dead m o hm] at hl; cases hl⟩

/-! ### A memory of dead objects -/

def nuOf : List (Nat × Loc) → Ren
  | [], _ => none
  | x :: xs, n => if n = x.1 then some x.2 else nuOf xs n

theorem heapOf_next (next : Nat) : ∀ xs, (heapOf next xs).next = next
  | [] => rfl
  | _ :: xs => heapOf_next next xs

theorem heapOf_get {next n : Nat} {o : AObj} : ∀ (xs : List ((Nat × Loc) × AObj)), (heapOf next (xs.map fun x => (x.1.1, x.2))).get n = some o → ∃ l, nuOf (xs.map (·.1)) n = some l ∧ ((n, l), o) ∈ xs
  | [], h => by cases h
  | ((m, l), p) :: xs, h => by
    simp only [List.map_cons, heapOf, AHeap.get_put] at h
    simp only [List.map_cons, nuOf]
    by_cases e : n = m
    · subst e
      simp only [if_true, Option.some.injEq] at h ⊢
      exact ⟨l, rfl, by rw [h]; exact List.mem_cons_self⟩
    · simp only [e, if_false] at h ⊢
      obtain ⟨k, h1, h2⟩ := heapOf_get xs h
      exact ⟨k, h1, List.mem_cons_of_mem _ h2⟩

theorem nuOf_mem {n : Nat} {l : Loc} : ∀ (xs : List (Nat × Loc)), nuOf xs n = some l → (n, l) ∈ xs
  | [], h => by cases h
  | (m, k) :: xs, h => by
    simp only [nuOf] at h
    by_cases e : n = m
    · subst e
      simp only [if_true, Option.some.injEq] at h
      rw [h]; exact List.mem_cons_self
    · simp only [e, if_false] at h
      exact List.mem_cons_of_mem _ (nuOf_mem xs h)

theorem nuOf_none {n : Nat} : ∀ (xs : List (Nat × Loc)), (∀ x ∈ xs, x.1 ≠ n) → nuOf xs n = none
  | [], _ => rfl
  | x :: xs, h => by
    simp only [nuOf]
    rw [if_neg (Ne.symm (h x List.mem_cons_self))]
    exact nuOf_none xs fun y hy => h y (List.mem_cons_of_mem _ hy)

theorem nuOf_append {n : Nat} {l : Loc} (ys : List (Nat × Loc)) : ∀ (xs : List (Nat × Loc)), nuOf xs n = some l → nuOf (xs ++ ys) n = some l
  | [], h => by cases h
  | x :: xs, h => by
    simp only [List.cons_append, nuOf] at h ⊢
    by_cases e : n = x.1
    · simpa only [e, if_true] using h
    · simp only [e, if_false] at h ⊢
      exact nuOf_append ys xs h

theorem hrel_dead {G next : Nat} {w : World} (xs : List ((Nat × Loc) × AObj)) (ys : List (Nat × Loc)) (hlt : ∀ x ∈ xs.map (·.1) ++ ys, x.1 < next) (hdead : ∀ x ∈ xs, x.2.live = false) (hblk : ∀ x ∈ xs.map (·.1) ++ ys, x.2.block < w.heap.size)
    (ho : ∀ x ∈ xs, ORel (nuOf (xs.map (·.1) ++ ys)) x.1.2 x.2 w) (hg : ∀ g, g < G → ∃ l, nuOf (xs.map (·.1) ++ ys) g = some l ∧ l.block = g ∧ l.base = 0) :
    HRel G (nuOf (xs.map (·.1) ++ ys)) (heapOf next (xs.map fun x => (x.1.1, x.2))) w where
  obj n o h := by
    obtain ⟨l, h1, h2⟩ := heapOf_get xs h
    exact ⟨l, nuOf_append ys _ h1, ho _ h2⟩
  block n l h := hblk _ (nuOf_mem _ h)
  fresh n hn := by
    rw [heapOf_next] at hn
    refine nuOf_none _ fun y hy e => ?_
    have := hlt y hy
    omega
  sep m o l n o' l' hm hl := by
    obtain ⟨k, _, h2⟩ := heapOf_get xs hm
    have := hdead _ h2
    rw [this] at hl
    cases hl
  glob := hg

theorem dead_of_dead {next : Nat} (xs : List ((Nat × Loc) × AObj)) (hdead : ∀ x ∈ xs, x.2.live = false) (n : Nat) (o : AObj) (h : (heapOf next (xs.map fun x => (x.1.1, x.2))).get n = some o) : o.live = false := by
  obtain ⟨l, _, h2⟩ := heapOf_get xs h
  exact hdead _ h2

/-! ### The tables of a row -/

theorem laidVars_mem {P : Program} {w : World} : ∀ {laid : List (String × DataW Unit)} {ps : List MemPlace}, DataW.LaidVars P w laid ps → ∀ x ∈ laid,
    ∃ g t cs fuel p, P.globalNamed x.1 = some g ∧ (P.globals[g]?).map (·.type) = some t ∧ w.var? P x.1 = some cs ∧ DataW.trod (fun _ => ()) P w 0 (fun _ => true) false fuel t cs.toList = some (x.2, p)
  | [], _, _, x, hx => by cases hx
  | (n, d) :: r, ps, h, x, hx => by
    obtain ⟨g, t, cs, fuel, p, q, e1, e2, e3, e4, hr, _⟩ := h
    rcases List.mem_cons.1 hx with rfl | hx
    · exact ⟨g, t, cs, fuel, p, e1, e2, e3, e4⟩
    · exact laidVars_mem hr x hx

/-- The variable g holds a slice of just these strings. -/
def StrsIs (w : World) (g : Nat) (vals : List ByteArray) : Prop :=
  ∃ A tg fg b off C t fz, w.heap[g]? = some (.cells A tg fg) ∧ 0 < A.size ∧ A.getD 0 undef = .slice (some ⟨b, off, none⟩) vals.length vals.length ∧ w.heap[b]? = some (.cells C t fz) ∧ off + vals.length ≤ C.size ∧
    ∀ i, i < vals.length → C.getD (off + i) undef = (vals.map Value.string).toArray.getD i undef

/-- The variable g begins with these cells. -/
def CellsIs (w : World) (g : Nat) (cells : List Value) : Prop := ∃ C t fz, w.heap[g]? = some (.cells C t fz) ∧ cells.length ≤ C.size ∧ ∀ i, i < cells.length → C.getD i undef = cells.toArray.getD i undef

theorem var?_heap {P : Program} {w : World} {name : String} {g : Nat} {cs : Array Value} (hg : P.globalNamed name = some g) (h : w.var? P name = some cs) : ∃ t fz, w.heap[g]? = some (.cells cs t fz) := by
  unfold World.var? at h
  rw [hg] at h
  simp only [Option.bind_some] at h
  split at h
  · rename_i c t fz hh
    cases h
    exact ⟨t, fz, hh⟩
  · cases h

theorem cellsIs_of_laid {P : Program} {w : World} {name : String} {g : Nat} {t e : TypeId} {n : Nat} {k : IntKind} {zs : List Int} {laid : List (String × DataW Unit)} {ps : List MemPlace}
    (hl : DataW.LaidVars P w laid ps) (hm : (name, Lib.tabData k zs) ∈ laid) (hg : P.globalNamed name = some g) (hty : (P.globals[g]?).map (·.type) = some t) (ht : P.underlying t = some (.array n e)) (he : P.underlying e = some (.int k))
    (hce : P.cellsOf e = 1) (hct : P.cellsOf t = n) : CellsIs w g (zs.map fun z => Value.int k z) := by
  obtain ⟨g', t', cs, fuel, p, e1, e2, e3, e4⟩ := laidVars_mem hl _ hm
  obtain rfl := Option.some.inj (hg.symm.trans e1)
  obtain rfl := Option.some.inj (hty.symm.trans e2)
  have := Lib.cells_of_tab ht he hce hct e4
  obtain ⟨tt, fz, hh⟩ := var?_heap e1 e3
  rw [← this]
  refine ⟨cs, tt, fz, hh, by simp, fun i _ => by simp⟩

theorem strsIs_of_laid {P : Program} {w : World} {name : String} {g : Nat} {t e : TypeId} {vals : List ByteArray} {laid : List (String × DataW Unit)} {ps : List MemPlace}
    (hl : DataW.LaidVars P w laid ps) (hm : (name, .slice (vals.map fun s => .lit (.string s.data.toList)) []) ∈ laid) (hne : vals ≠ []) (hg : P.globalNamed name = some g) (hty : (P.globals[g]?).map (·.type) = some t)
    (ht : P.underlying t = some (.slice e)) (he : P.underlying e = some .string) (hce : P.cellsOf e = 1) : StrsIs w g vals := by
  obtain ⟨g', t', cs, fuel, p, e1, e2, e3, e4⟩ := laidVars_mem hl _ hm
  obtain rfl := Option.some.inj (hg.symm.trans e1)
  obtain rfl := Option.some.inj (hty.symm.trans e2)
  obtain ⟨tt, fz, hh⟩ := var?_heap e1 e3
  rcases Deep.open_strs ht he hce e4 with ⟨_, hx⟩ | ⟨a, len, cap, m, Sx, hcs, _, hlc, _, hm, hx, hcell⟩
  · cases hx
  simp only [if_true] at hm
  subst hm
  simp only [Prod.mk.injEq, DataW.slice.injEq] at hx
  obtain ⟨⟨hx1, hx2⟩, _⟩ := hx
  have hlen : vals.length = len := by simpa using congrArg List.length hx1
  have hcap : m = len := by
    have : 0 = m - len := by simpa using congrArg List.length hx2
    omega
  subst hcap hlen
  have hS : ∀ i, i < vals.length → vals[i]? = some (Sx i) := by
    intro i hi
    have := congrArg (·[i]?) hx1
    simp only [List.getElem?_map, List.getElem?_range hi, Option.map_some] at this
    cases hv : vals[i]? with
    | none => rw [hv] at this; cases this
    | some s =>
      rw [hv] at this
      simp only [Option.map_some, Option.some.injEq, DataW.lit.injEq, Lit.string.injEq] at this
      congr 1
      cases s with | mk d => cases hs : Sx i with | mk d' => rw [hs] at this; exact congrArg ByteArray.mk (Array.toList_inj.1 this)
  have hpos : 0 < vals.length := List.length_pos_iff.2 hne
  obtain ⟨h0, _⟩ := hcell 0 hpos
  obtain ⟨ab, ao, asp⟩ := a
  have hz : Addr.add ⟨ab, ao, asp⟩ 0 = ⟨ab, ao, asp⟩ := rfl
  rw [hz] at h0
  unfold World.cell? at h0
  simp only at h0
  split at h0
  · rename_i C ct cfz hC
    cases asp with
    | some s => simp at h0
    | none =>
      have hall : ∀ i, i < vals.length → C[ao + i]? = some (.string (Sx i)) := by
        intro i hi
        obtain ⟨hi', _⟩ := hcell i hi
        have hadd : Addr.add ⟨ab, ao, none⟩ i = ⟨ab, ao + i, none⟩ := by
          unfold Addr.add
          by_cases h : i = 0 <;> simp [h]
        rw [hadd] at hi'
        unfold World.cell? at hi'
        simp only [hC] at hi'
        simpa using hi'
      have hcs' : cs = #[Value.slice (some ⟨ab, ao, none⟩) vals.length vals.length] := by
        apply Array.toList_inj.1
        rw [hcs]
      subst hcs'
      refine ⟨_, tt, fz, ab, ao, C, ct, cfz, hh, by simp, by simp, hC, ?_, fun i hi => ?_⟩
      · have := hall (vals.length - 1) (by omega)
        have := (Array.getElem?_eq_some_iff.1 this).1
        omega
      · rw [getD_of_get? (hall i hi)]
        refine (getD_of_get? ?_).symm
        simp [hS i hi]
  · cases h0

/-! ### How they lie in the evaluator's memory -/

theorem strs_orel {w : World} {g : Nat} {vals : List ByteArray} (h : StrsIs w g vals) : ∃ l k tg t, l.block = g ∧ l.base = 0 ∧ l.block < w.heap.size ∧ k.block < w.heap.size ∧
    ∀ (ν : Ren) (r : Nat), ν r = some k → ORel ν l (strsVar r vals tg) w ∧ ORel ν k (strsRow vals t) w := by
  obtain ⟨A, tg, fg, b, off, C, t, fz, h1, hA, hA0, h2, h3, h4⟩ := h
  refine ⟨⟨g, 0, none, A.size⟩, ⟨b, off, none, C.size⟩, tg, t, rfl, rfl, (Array.getElem?_eq_some_iff.1 h1).1, (Array.getElem?_eq_some_iff.1 h2).1, fun ν r hr => ⟨?_, ?_⟩⟩
  · refine ⟨rfl, A, fg, h1, fun h => (by cases h), (show 0 + 1 ≤ A.size by omega), rfl, fun i hi => ?_⟩
    obtain rfl : i = 0 := by simpa using hi
    have : VRel ν (.slice (some ⟨r, 0, none⟩) vals.length vals.length) (.slice (some ⟨b, off + 0, none⟩) vals.length vals.length) :=
      .slice (l := ⟨b, off, none, C.size⟩) hr (Nat.le_refl _) (Nat.le_refl _) (fun _ => rfl) (fun s hs => by cases hs)
    show VRel ν _ (A.getD (0 + 0) undef)
    rw [hA0]
    exact this
  · refine ⟨rfl, C, fz, h2, fun h => (by cases h), by simpa using h3, rfl, fun i hi => ?_⟩
    have hi' : i < vals.length := by simpa using hi
    show VRel ν _ (C.getD (off + i) undef)
    rw [h4 i hi']
    refine VRel.of_addrFree ?_
    simp [hi', addrFree, flat]

theorem cells_orel {w : World} {g : Nat} {cells : List Value} (hf : cells.all flat = true) (h : CellsIs w g cells) : ∃ l t, l.block = g ∧ l.base = 0 ∧ l.block < w.heap.size ∧
    ∀ (ν : Ren), ORel ν l (cellsVar cells t) w := by
  obtain ⟨C, t, fz, h1, h2, h3⟩ := h
  refine ⟨⟨g, 0, none, C.size⟩, t, rfl, rfl, (Array.getElem?_eq_some_iff.1 h1).1, fun ν => ?_⟩
  refine ⟨rfl, C, fz, h1, fun h => (by cases h), by simpa using h2, rfl, fun i hi => ?_⟩
  show VRel ν _ (C.getD (0 + i) undef)
  rw [Nat.zero_add, h3 i (by simpa using hi)]
  exact (ARel.of_flat (ν := ν) (cs := cells.toArray) (by simpa using hf)).2 i hi

/-- .. and back. -/
theorem strs_of_hrel {G : Nat} {ν : Ren} {H : AHeap} {w : World} (h : HRel G ν H w) {g r : Nat} {vals : List ByteArray} {tg t : TypeId} (hg : g < G) (h1 : H.get g = some (strsVar r vals tg)) (h2 : H.get r = some (strsRow vals t)) : StrsIs w g vals := by
  obtain ⟨l, q1, q2, q3⟩ := h.glob g hg
  obtain ⟨l', q1', hf, A, fg, a1, a2, a3, a4, a5⟩ := h.obj g _ h1
  obtain rfl := Option.some.inj (q1.symm.trans q1')
  obtain ⟨k, k1, kf, C, fz, c1, c2, c3, c4, c5⟩ := h.obj r _ h2
  have h0 := a5 0 (by simp)
  rw [q3] at h0
  have e0 : (#[Value.slice (some ⟨r, 0, none⟩) vals.length vals.length] : Array Value).getD 0 undef = .slice (some ⟨r, 0, none⟩) vals.length vals.length := rfl
  rw [e0] at h0
  generalize hA0 : A.getD (0 + 0) undef = u at h0
  cases h0 with
  | slice hn hl hc hff ht =>
    obtain rfl := Option.some.inj (k1.symm.trans hn)
    have hcap := hff kf
    subst hcap
    refine ⟨A, _, fg, k.block, k.base + 0, C, _, fz, q2 ▸ a1, by (have a3' : l.base + 1 ≤ A.size := a3); omega, hA0, c1, by simpa using c3, fun i hi => ?_⟩
    have := c5 i (by simpa using hi)
    rw [Nat.add_zero]
    refine VRel.addrFree_eq this ?_
    simp [hi, addrFree, flat]

theorem cells_of_hrel {G : Nat} {ν : Ren} {H : AHeap} {w : World} (h : HRel G ν H w) {g : Nat} {cells : List Value} {t : TypeId} (hg : g < G) (hf : cells.all flat = true) (h1 : H.get g = some (cellsVar cells t)) : CellsIs w g cells := by
  obtain ⟨l, q1, q2, q3⟩ := h.glob g hg
  obtain ⟨l', q1', hf', A, fg, a1, a2, a3, a4, a5⟩ := h.obj g _ h1
  obtain rfl := Option.some.inj (q1.symm.trans q1')
  refine ⟨A, _, fg, q2 ▸ a1, by rw [q3] at a3; simpa using a3, fun i hi => ?_⟩
  have := a5 i (by simpa using hi)
  rw [q3, Nat.zero_add] at this
  refine VRel.addrFree_eq this ?_
  have hi' : cells[i]? = some cells[i] := by simp [hi]
  have e : cells.toArray.getD i undef = cells[i] := by simp [hi]
  rw [e]
  have := List.all_eq_true.1 hf _ (List.getElem_mem hi)
  generalize cells[i] = v at this
  cases v <;> first | exact this | (simp [flat] at this)

/-- Where nothing old has turned, the memory stands as it stood. -/
theorem hrel_below {G : Nat} {ν : Ren} {H : AHeap} {w w' : World} (h : HRel G ν H w) (hb : Below w.heap.size w w') : HRel G ν H w' where
  obj n o hn := by
    obtain ⟨l, h1, h2⟩ := h.obj n o hn
    exact ⟨l, h1, h2.keep (fun _ _ k => k) (hb.block _ (h.block n l h1))⟩
  block n l hn := Nat.lt_of_lt_of_le (h.block n l hn) hb.size
  fresh := h.fresh
  sep := h.sep
  glob := h.glob

theorem later_below {G : Nat} {ν : Ren} {H : AHeap} {w w' : World} (h : HRel G ν H w) (hb : Below w.heap.size w w') (hz : ∀ b, fzOf w' b = fzOf w b) : Later ν H w ν H w' where
  ext _ _ := rfl
  next := Nat.le_refl _
  os := hb.os
  tape := hb.tape
  output := hb.output
  size := hb.size
  frame b hl _ := hb.block b hl
  names n o l hn hl _ := ⟨n, o, l, hn, hl, rfl, id⟩
  froz := hz
end
end Go.Ev
