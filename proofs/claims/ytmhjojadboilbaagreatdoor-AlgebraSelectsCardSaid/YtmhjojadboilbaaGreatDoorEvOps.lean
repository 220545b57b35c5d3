/- Maps, iterators and pure operations of the evaluator. -/
import Derived.Test.YtmhjojadboilbaaGreatDoorEvCore
import Derived.Laws.MakeOwn
import Derived.Laws.BytesString
set_option linter.unusedVariables false
set_option linter.unusedSimpArgs false
set_option linter.unusedSectionVars false
namespace Go.Ev
noncomputable section
variable {P : Program}

/-! ### Runs that need no memory -/

/-- The outcome of a piece of the machine's code that reads and writes no memory and asks nothing. -/
def pureRun (P : Program) {α : Type} : Sem α → Option α
  | .pure a => some a
  | .program k => pureRun P (k P)
  | .choose q k => if q.forced then pureRun P (k 0) else none
  | _ => none

theorem pureRun_ok {α : Type} (s : Sem α) (a : α) (h : pureRun P s = some a) (w : World) : s.run P w = .ok a w := by
  induction s with
  | pure b => simp only [pureRun, Option.some.injEq] at h; subst h; rfl
  | program k ih => exact ih P h
  | choose q k ih =>
    simp only [pureRun] at h
    split at h
    · rename_i hf; simp only [Sem.run, hf, if_true]; exact ih 0 h
    · cases h
  | load => simp [pureRun] at h
  | store => simp [pureRun] at h
  | new => simp [pureRun] at h
  | shape => simp [pureRun] at h
  | freeze => simp [pureRun] at h
  | frozen => simp [pureRun] at h
  | getObj => simp [pureRun] at h
  | setObj => simp [pureRun] at h
  | sys => simp [pureRun] at h
  | mark => simp [pureRun] at h
  | halt => simp [pureRun] at h

theorem pureRun_bind {α β : Type} (s : Sem α) (f : α → Sem β) : pureRun P (s >>= f) = (pureRun P s).bind fun a => pureRun P (f a) := by
  show pureRun P (s.bind f) = _
  induction s with
  | pure b => rfl
  | program k ih => exact ih P
  | choose q k ih =>
    simp only [Sem.bind, pureRun]
    split
    · exact ih 0
    · rfl
  | load => rfl
  | store => rfl
  | new => rfl
  | shape => rfl
  | freeze => rfl
  | frozen => rfl
  | getObj => rfl
  | setObj => rfl
  | sys => rfl
  | mark => rfl
  | halt => rfl

/-! ### Entries -/

theorem ERel.get? {ν : Ren} : ∀ {es es' : List MapEntry}, ERel ν es es' → ∀ {i : Nat} {e : MapEntry}, es[i]? = some e → ∃ e', es'[i]? = some e' ∧ addrFree e.key = true ∧ e'.key = e.key ∧ e'.born = e.born ∧ VRel ν e.val e'.val
  | [], [], _, i, e, h => by simp at h
  | a :: es, a' :: es', ⟨h1, h2, h3, h4, h5⟩, 0, e, h => by
    simp at h; subst h; exact ⟨a', by simp, h1, h2, h3, h4⟩
  | a :: es, a' :: es', ⟨h1, h2, h3, h4, h5⟩, i + 1, e, h => by
    simp only [List.getElem?_cons_succ] at h ⊢
    exact h5.get? h

theorem ERel.append {ν : Ren} : ∀ {es es' fs fs' : List MapEntry}, ERel ν es es' → ERel ν fs fs' → ERel ν (es ++ fs) (es' ++ fs')
  | [], [], _, _, _, k => k
  | _ :: _, _ :: _, _, _, ⟨h1, h2, h3, h4, h5⟩, k => ⟨h1, h2, h3, h4, h5.append k⟩

theorem ERel.modify {ν : Ren} {f f' : MapEntry → MapEntry} (hf : ∀ e e', addrFree e.key = true → e'.key = e.key → e'.born = e.born → VRel ν e.val e'.val → addrFree (f e).key = true ∧ (f' e').key = (f e).key ∧ (f' e').born = (f e).born ∧ VRel ν (f e).val (f' e').val) :
    ∀ {es es' : List MapEntry}, ERel ν es es' → ∀ (i : Nat), ERel ν (es.modify i f) (es'.modify i f')
  | [], [], _, i => by cases i <;> exact trivial
  | a :: es, a' :: es', ⟨h1, h2, h3, h4, h5⟩, 0 => by
    obtain ⟨a1, a2, a3, a4⟩ := hf a a' h1 h2 h3 h4
    exact ⟨a1, a2, a3, a4, h5⟩
  | a :: es, a' :: es', ⟨h1, h2, h3, h4, h5⟩, i + 1 => ⟨h1, h2, h3, h4, h5.modify hf i⟩

theorem ERel.filter {ν : Ren} (p : Nat → Bool) : ∀ {es es' : List MapEntry}, ERel ν es es' → ERel ν (es.filter fun e => p e.born) (es'.filter fun e => p e.born)
  | [], [], _ => trivial
  | a :: es, a' :: es', ⟨h1, h2, h3, h4, h5⟩ => by
    simp only [List.filter_cons, h3]
    split
    · exact ⟨h1, h2, h3, h4, h5.filter p⟩
    · exact h5.filter p

theorem ERel.find? {ν : Ren} (p : Nat → Bool) : ∀ {es es' : List MapEntry}, ERel ν es es' → ∀ {e}, es.find? (fun e => p e.born) = some e → ∃ e', es'.find? (fun e => p e.born) = some e' ∧ addrFree e.key = true ∧ e'.key = e.key ∧ e'.born = e.born ∧ VRel ν e.val e'.val
  | [], [], _, e, h => by simp at h
  | a :: es, a' :: es', ⟨h1, h2, h3, h4, h5⟩, e, h => by
    simp only [List.find?_cons, h3] at h ⊢
    split at h
    · cases h; exact ⟨a', rfl, h1, h2, h3, h4⟩
    · exact h5.find? p h

theorem ERel.all {ν : Ren} (p : Nat → Bool) : ∀ {es es' : List MapEntry}, ERel ν es es' → es'.all (fun e => p e.born) = es.all (fun e => p e.born)
  | [], [], _ => rfl
  | a :: es, a' :: es', ⟨h1, h2, h3, h4, h5⟩ => by simp only [List.all_cons, h3, h5.all p]

theorem ERel.isEmpty {ν : Ren} {es es' : Array MapEntry} (h : ERel ν es.toList es'.toList) : es'.isEmpty = es.isEmpty := by
  have := h.length
  simp only [Array.length_toList] at this
  simp [Array.isEmpty, this]

theorem findNow_rel {ν : Ren} (d : TypeDesc) (k : Value) : ∀ (es es' : List MapEntry) (i : Nat), ERel ν es es' → ∀ r, Instr.findNow d k es i = some r →
    ∃ r', Instr.findNow d k es' i = some r' ∧ ((r = none ∧ r' = none) ∨ ∃ j v v', r = some (j, v) ∧ r' = some (j, v') ∧ VRel ν v v')
  | [], [], i, _, r, h => by simp only [Instr.findNow, Option.some.injEq] at h; subst h; exact ⟨none, rfl, .inl ⟨rfl, rfl⟩⟩
  | a :: es, a' :: es', i, ⟨h1, h2, h3, h4, h5⟩, r, h => by
    simp only [Instr.findNow, h2] at h ⊢
    split at h
    · cases h; exact ⟨_, rfl, .inr ⟨i, a.val, a'.val, rfl, rfl, h4⟩⟩
    · exact findNow_rel d k es es' (i + 1) h5 r h
    · cases h

theorem findNow_none {ν : Ren} (d : TypeDesc) (k : Value) : ∀ (es es' : List MapEntry) (i : Nat), ERel ν es es' → Instr.findNow d k es i = none → Instr.findNow d k es' i = none
  | [], [], i, _, h => by simp [Instr.findNow] at h
  | a :: es, a' :: es', i, ⟨h1, h2, h3, h4, h5⟩, h => by
    simp only [Instr.findNow, h2] at h ⊢
    split at h
    · cases h
    · exact findNow_none d k es es' (i + 1) h5 h
    · rfl

theorem findAsking_rel {ν : Ren} (t : TypeId) (k : Value) (w : World) : ∀ (es es' : List MapEntry) (i : Nat), ERel ν es es' → ∀ r, pureRun P (Instr.findAsking t k es i) = some r →
    ∃ r', (Instr.findAsking t k es' i).run P w = .ok r' w ∧ ((r = none ∧ r' = none) ∨ ∃ j v v', r = some (j, v) ∧ r' = some (j, v') ∧ VRel ν v v')
  | [], [], i, _, r, h => by
    have h' : (some none : Option (Option (Nat × Value))) = some r := h
    cases h'; exact ⟨none, rfl, .inl ⟨rfl, rfl⟩⟩
  | a :: es, a' :: es', i, ⟨h1, h2, h3, h4, h5⟩, r, h => by
    simp only [Instr.findAsking, pureRun_bind] at h
    simp only [Instr.findAsking, h2, Sem.run_bind]
    cases hq : pureRun P (Op.equal t k a.key) with
    | none => simp [hq] at h
    | some b =>
      simp only [hq, Option.bind_some] at h
      rw [pureRun_ok _ _ hq w]
      simp only [Result.andThen_ok]
      cases b with
      | true =>
        simp only [if_true] at h ⊢
        have h' : (some (some (i, a.val)) : Option (Option (Nat × Value))) = some r := h
        cases h'; exact ⟨_, rfl, .inr ⟨i, a.val, a'.val, rfl, rfl, h4⟩⟩
      | false =>
        simp only [Bool.false_eq_true, if_false] at h ⊢
        exact findAsking_rel t k w es es' (i + 1) h5 r h

/-- Where a key is in a map. -/
theorem findKey_rel {ν : Ren} (t : TypeId) (k : Value) (w : World) (es es' : List MapEntry) (h : ERel ν es es') (r : Option (Nat × Value)) (hr : pureRun P (Instr.findKey t k es) = some r) :
    ∃ r', (Instr.findKey t k es').run P w = .ok r' w ∧ ((r = none ∧ r' = none) ∨ ∃ j v v', r = some (j, v) ∧ r' = some (j, v') ∧ VRel ν v v') := by
  simp only [Instr.findKey, pureRun_bind] at hr
  simp only [Instr.findKey, Sem.run_bind]
  cases hu : pureRun P (underlying t) with
  | none => simp [hu] at hr
  | some d =>
    simp only [hu, Option.bind_some] at hr
    rw [pureRun_ok _ _ hu w]
    simp only [Result.andThen_ok]
    cases hn : Instr.findNow d k es 0 with
    | some q =>
      simp only [hn] at hr
      obtain ⟨q', h1, h2⟩ := findNow_rel d k es es' 0 h q hn
      have h' : (some q : Option (Option (Nat × Value))) = some r := hr
      cases h'
      exact ⟨q', by simp [h1], h2⟩
    | none =>
      simp only [hn] at hr
      rw [findNow_none d k es es' 0 h hn]
      exact findAsking_rel t k w es es' 0 h r hr

/-! ### Objects that are no cells -/

def isCells : AObj → Bool
  | .cells .. => true
  | _ => false

theorem HRel.notCells {G : Nat} {ν : Ren} {H : AHeap} {w : World} (h : HRel G ν H w) {n : Nat} {o : AObj} {l : Loc} (hn : H.get n = some o) (hl : ν n = some l) : ORel ν l o w := by
  obtain ⟨l', h1, h2⟩ := h.obj n o hn
  rw [hl] at h1; cases h1; exact h2

theorem fzOf_notCells {ν : Ren} {l : Loc} {o : AObj} {w : World} (hc : isCells o = false) (h : ORel ν l o w) : fzOf w l.block = (0, 0) := by
  unfold fzOf
  cases o with
  | cells c1 e1 grow live olds => simp [isCells] at hc
  | map es clock => obtain ⟨-, ES, h1, -⟩ := h; rw [h1]
  | iter m since seen stepped => obtain ⟨-, m', h1, -⟩ := h; rw [h1]
  | str s pos => obtain ⟨-, h1⟩ := h; rw [h1]
  | loop r => obtain ⟨-, r', h1, -⟩ := h; rw [h1]
  | deferred taken => obtain ⟨-, h1⟩ := h; rw [h1]

/-- Such an object set. -/
theorem HRel.setObj {G : Nat} {ν : Ren} {H : AHeap} {w : World} (h : HRel G ν H w) {n : Nat} {o o' : AObj} {l : Loc} {obj' : Obj} (hn : H.get n = some o) (hl : ν n = some l) (ho : isCells o = false) (ho' : isCells o' = false)
    (hr : ORel ν l o' { w with heap := w.heap.setIfInBounds l.block obj' }) :
    HRel G ν (H.put n (some o')) { w with heap := w.heap.setIfInBounds l.block obj' } ∧ Later ν H w ν (H.put n (some o')) { w with heap := w.heap.setIfInBounds l.block obj' } := by
  have live : ∀ {q : AObj}, isCells q = false → q.live = true ∧ q.olds = [] := by intro q hq; cases q <;> simp_all [isCells, AObj.live, AObj.olds]
  have alone : ∀ m q k, m ≠ n → H.get m = some q → ν m = some k → k.block ≠ l.block := by
    intro m q k hm hq hk hb
    have := (h.sep n o l m q k hn (live ho).1 hl hm hq hk hb).2.1
    rw [(live ho).2] at this; cases this
  have hg : ∀ m q, (H.put n (some o')).get m = some q → (m = n ∧ q = o') ∨ (m ≠ n ∧ H.get m = some q) := by
    intro m q hm
    rw [AHeap.get_put] at hm
    split at hm
    · cases hm; exact .inl ⟨by assumption, rfl⟩
    · exact .inr ⟨by assumption, hm⟩
  have other : ∀ b, b ≠ l.block → (w.heap.setIfInBounds l.block obj')[b]? = w.heap[b]? := fun b hb => by
    rw [Array.getElem?_setIfInBounds, if_neg (Ne.symm hb)]
  refine ⟨⟨?_, ?_, ?_, ?_, h.glob⟩, ⟨fun _ _ => rfl, by simp, rfl, rfl, rfl, by simp, ?_, ?_, ?_⟩⟩
  · intro m q hm
    rcases hg m q hm with ⟨rfl, rfl⟩ | ⟨hne, hm'⟩
    · exact ⟨l, hl, hr⟩
    · obtain ⟨k, hk, hq⟩ := h.obj m q hm'
      exact ⟨k, hk, hq.keep (ExtTo.refl ν) (other k.block (alone m q k hne hm' hk))⟩
  · intro m k hk; simpa using h.block m k hk
  · intro m hm; exact h.fresh m (by simpa using hm)
  · intro m q k m' q' k' a1 a2 a3 a4 a5 a6 a7
    rcases hg m q a1 with ⟨rfl, rfl⟩ | ⟨hne, a1'⟩
    · rcases hg m' q' a5 with ⟨rfl, -⟩ | ⟨hne', a5'⟩
      · exact absurd rfl a4
      · rw [hl] at a3; cases a3; exact absurd a7 (alone m' q' k' hne' a5' a6)
    · rcases hg m' q' a5 with ⟨rfl, rfl⟩ | ⟨hne', a5'⟩
      · rw [hl] at a6; cases a6; exact absurd a7.symm (alone m q k hne a1' a3)
      · exact h.sep m q k m' q' k' a1' a2 a3 a4 a5' a6 a7
  · intro b hb hlive; exact other b (fun e => hlive n o l hn (live ho).1 hl e.symm)
  · intro m q k hm hk hb
    rcases hg m q hm with ⟨rfl, rfl⟩ | ⟨hne, hm'⟩
    · exact ⟨m, o, k, hn, hk, rfl, fun _ => (live ho).1⟩
    · exact ⟨m, q, k, hm', hk, rfl, id⟩
  · intro b
    by_cases hb : b = l.block
    · rw [hb, fzOf_notCells ho' hr, fzOf_notCells ho (h.notCells hn hl)]
    · unfold fzOf; rw [other b hb]

/-- A new object that is no row of cells. -/
theorem new_obj {G : Nat} {ν : Ren} {H : AHeap} {w : World} (h : HRel G ν H w) (hG : G ≤ H.next) (o : AObj) (obj : Obj)
    (ho : ∀ ν', ExtTo ν ν' → ORel ν' ⟨w.heap.size, 0, none, 0⟩ o { w with heap := w.heap.push obj }) (hlive : o.live = true := by rfl) :
    HRel G (ν.add H.next ⟨w.heap.size, 0, none, 0⟩) (H.add o) { w with heap := w.heap.push obj } ∧ Later ν H w (ν.add H.next ⟨w.heap.size, 0, none, 0⟩) (H.add o) { w with heap := w.heap.push obj } ∧
    (ν.add H.next ⟨w.heap.size, 0, none, 0⟩) H.next = some ⟨w.heap.size, 0, none, 0⟩ := by
  have := h.add o obj ⟨w.heap.size, 0, none, 0⟩ rfl (ho _ (h.ext_add _)) hG hlive
  exact ⟨this.1, this.2, by simp [Ren.add]⟩

def amakeMap (H : AHeap) : Value × AHeap := (.map (some H.next), H.add (.map #[] 0))

theorem amakeMap_ok {G : Nat} {ν : Ren} {H : AHeap} {w : World} (h : HRel G ν H w) (hG : G ≤ H.next) (t : TypeId) :
    ∃ v' w' ν', (Instr.makeMap t none).run P w = .ok v' w' ∧ VRel ν' (amakeMap H).1 v' ∧ HRel G ν' (amakeMap H).2 w' ∧ Later ν H w ν' (amakeMap H).2 w' := by
  obtain ⟨h1, h2, h3⟩ := new_obj h hG (.map #[] 0) (.map #[] 0) (fun ν' _ => ⟨rfl, #[], by simp, trivial⟩)
  exact ⟨.map (some w.heap.size), _, _, rfl, .map h3, h1, h2⟩

/-- The entries of a map value. -/
def aentries (H : AHeap) (m : Value) : Option (Array MapEntry) :=
  match m with
  | .map none => some #[]
  | .map (some r) => match H.get r with
    | some (.map es _) => some es
    | _ => none
  | _ => none

def alookup (E : Env P) (H : AHeap) (t : TypeId) (m k : Value) (ok : Bool) : Option Value :=
  match E.und t, aentries H m with
  | some (.map kt et), some es =>
    match pureRun P (Instr.checkKey es.isEmpty 10000 kt k), pureRun P (Instr.findKey kt k es.toList) with
    | some _, some (some (_, v)) => if addrFree k = true then some (if ok then .tuple #[v, .bool true] else v) else none
    | some _, some none =>
      match E.info et with
      | some i => match i.zero with
        | some z => if addrFree k = true ∧ addrFree z = true then some (if ok then .tuple #[z, .bool false] else z) else none
        | none => none
      | none => none
    | _, _ => none
  | _, _ => none

theorem VRel.pair {ν : Ren} {v v' : Value} (h : VRel ν v v') (b : Bool) : VRel ν (.tuple #[v, .bool b]) (.tuple #[v', .bool b]) := by
  have := (ARel.empty ν).push h |>.push (VRel.bool b)
  exact .tuple this.1 this.2

theorem alookup_ok (E : Env P) {G : Nat} {ν : Ren} {H : AHeap} {w : World} (h : HRel G ν H w) {t : TypeId} {m m' k k' v : Value} {ok : Bool} (hm : VRel ν m m') (hk : VRel ν k k') (hv : alookup E H t m k ok = some v) :
    ∃ v', (Instr.lookup t m' k' ok).run P w = .ok v' w ∧ VRel ν v v' := by
  unfold alookup at hv
  split at hv
  case h_2 => cases hv
  rename_i kt et es ht hes
  have hentries : ∃ ES : Array MapEntry, ERel ν es.toList ES.toList ∧ ((m' = .map none ∧ ES = #[]) ∨ ∃ r c, m' = .map (some r) ∧ (getObj r).run P w = .ok (.map ES c) w) := by
    unfold aentries at hes
    split at hes
    · cases hes; cases hm; exact ⟨#[], trivial, .inl ⟨rfl, rfl⟩⟩
    · rename_i r
      split at hes
      · rename_i es' c hg
        cases hes
        cases hm with
        | @map _ l hl =>
          obtain ⟨-, ES, h1, h2⟩ := h.notCells hg hl
          exact ⟨ES, h2, .inr ⟨l.block, c, rfl, by simp [getObj, Sem.run, h1]⟩⟩
      · cases hes
    · cases hes
  obtain ⟨ES, hE, hrun⟩ := hentries
  have hck : ∀ u, pureRun P (Instr.checkKey es.isEmpty 10000 kt k) = some u → (Instr.checkKey ES.isEmpty 10000 kt k).run P w = .ok () w := by
    intro u hu; rw [hE.isEmpty]; exact pureRun_ok _ _ hu w
  split at hv
  · rename_i u i v0 hc hf
    split at hv
    · rename_i hfree
      cases hv
      rw [hk.addrFree_eq hfree]
      obtain ⟨r', h1, h2⟩ := findKey_rel kt k w es.toList ES.toList hE _ hf
      rcases h2 with ⟨h2, -⟩ | ⟨j, a, a', h2, rfl, h3⟩
      · cases h2
      · cases h2
        refine ⟨if ok then .tuple #[a', .bool true] else a', ?_, ?_⟩
        · rcases hrun with ⟨rfl, rfl⟩ | ⟨r, c, rfl, hr⟩
          · simp only [Instr.lookup, Sem.run_bind, run_und E ht, Result.andThen_ok, Sem.run_pure, hck u hc, h1]
          · simp only [Instr.lookup, Sem.run_bind, run_und E ht, Result.andThen_ok, hr, Sem.run_pure, hck u hc, h1]
        · cases ok
          · exact h3
          · exact h3.pair true
    · cases hv
  · rename_i u hc hf
    split at hv
    case h_2 => cases hv
    rename_i i hi
    split at hv
    case h_2 => cases hv
    rename_i z hz
    split at hv
    · rename_i hfree
      cases hv
      rw [hk.addrFree_eq hfree.1]
      obtain ⟨r', h1, h2⟩ := findKey_rel kt k w es.toList ES.toList hE _ hf
      rcases h2 with ⟨-, rfl⟩ | ⟨j, a, a', h2, -⟩
      · have hzr : VRel ν z z := VRel.of_addrFree hfree.2
        refine ⟨if ok then .tuple #[z, .bool false] else z, ?_, ?_⟩
        · rcases hrun with ⟨rfl, rfl⟩ | ⟨r, c, rfl, hr⟩
          · simp only [Instr.lookup, Sem.run_bind, run_und E ht, Result.andThen_ok, Sem.run_pure, hck u hc, h1, run_zero E hi hz]
          · simp only [Instr.lookup, Sem.run_bind, run_und E ht, Result.andThen_ok, hr, Sem.run_pure, hck u hc, h1, run_zero E hi hz]
        · cases ok
          · exact hzr
          · exact hzr.pair false
      · cases h2
    · cases hv
  · cases hv

def amapUpdate (E : Env P) (H : AHeap) (t : TypeId) (m k x : Value) : Option AHeap :=
  match E.und t, m with
  | some (.map kt _), .map (some r) =>
    match H.get r with
    | some (.map es clock) =>
      match pureRun P (Instr.checkKey false 10000 kt k), pureRun P (Instr.findKey kt k es.toList) with
      | some _, some (some (i, _)) =>
        if addrFree k = true ∧ Instr.sameBits 10000 (((es[i]?).map (·.key)).getD k) k = true then
          some (H.put r (some (.map (es.toList.modify i fun e => { e with key := k, val := x }).toArray clock)))
        else none
      | some _, some none => if addrFree k = true then some (H.put r (some (.map (es.push { key := k, val := x, born := clock }) (clock + 1)))) else none
      | _, _ => none
    | _ => none
  | _, _ => none

theorem amapUpdate_ok (E : Env P) {G : Nat} {ν : Ren} {H H' : AHeap} {w : World} (h : HRel G ν H w) {t : TypeId} {m m' k k' x x' : Value} (hm : VRel ν m m') (hk : VRel ν k k') (hx : VRel ν x x')
    (hv : amapUpdate E H t m k x = some H') : ∃ w', (Instr.mapUpdate t m' k' x').run P w = .ok () w' ∧ HRel G ν H' w' ∧ Later ν H w ν H' w' := by
  unfold amapUpdate at hv
  split at hv
  case h_2 => cases hv
  rename_i kt et r ht
  split at hv
  case h_2 => cases hv
  rename_i es clock hg
  cases hm with
  | @map _ l hl =>
  obtain ⟨hb0, ES, h1, hE⟩ := h.notCells hg hl
  have hget : (getObj l.block).run P w = .ok (.map ES clock) w := by simp [getObj, Sem.run, h1]
  have hset : ∀ o, (setObj l.block o).run P w = .ok () { w with heap := w.heap.setIfInBounds l.block o } := by intro o; simp [setObj, Sem.run, h1]
  have hlt : l.block < w.heap.size := h.block _ l hl
  split at hv
  · rename_i u i v0 hc hf
    split at hv
    · rename_i hcond
      obtain ⟨hfree, hsame⟩ := hcond
      cases hv
      rw [hk.addrFree_eq hfree]
      obtain ⟨r', g1, g2⟩ := findKey_rel kt k w es.toList ES.toList hE _ hf
      rcases g2 with ⟨g2, -⟩ | ⟨j, a, a', g2, rfl, g3⟩
      · cases g2
      · cases g2
        have hkey : ((ES[i]?).map (·.key)).getD k = ((es[i]?).map (·.key)).getD k := by
          cases he : es[i]? with
          | none =>
            have hlen := hE.length
            have : ES[i]? = none := by
              rw [Array.getElem?_eq_none_iff] at he ⊢
              simp only [Array.length_toList] at hlen; omega
            simp [this]
          | some e =>
            obtain ⟨e', h1', -, h2', -⟩ := hE.get? (i := i) (e := e) (by simpa using he)
            have : ES[i]? = some e' := by simpa using h1'
            simp [this, h2']
        have hstay : (Instr.keyThatStays (((ES[i]?).map (·.key)).getD k) k).run P w = .ok k w := by
          rw [hkey]; simp [Instr.keyThatStays, hsame]
        have hfin := h.setObj (o' := .map (es.toList.modify i fun e => { e with key := k, val := x }).toArray clock) (obj' := .map (ES.modify i fun e => { e with key := k, val := x' }) clock) hg hl rfl rfl
          ⟨hb0, ES.modify i fun e => { e with key := k, val := x' }, by simp [hlt], by
            rw [Array.toList_modify]
            exact hE.modify (f := fun e => { e with key := k, val := x }) (f' := fun e => { e with key := k, val := x' }) (fun e e' _ _ q3 _ => ⟨hfree, rfl, q3, hx⟩) i⟩
        refine ⟨_, ?_, hfin.1, hfin.2⟩
        simp only [Instr.mapUpdate, Sem.run_bind, run_und E ht, Result.andThen_ok, hget, pureRun_ok _ _ hc w, g1, hstay, hset]
    · cases hv
  · rename_i u hc hf
    split at hv
    · rename_i hfree
      cases hv
      rw [hk.addrFree_eq hfree]
      obtain ⟨r', g1, g2⟩ := findKey_rel kt k w es.toList ES.toList hE _ hf
      rcases g2 with ⟨-, rfl⟩ | ⟨j, a, a', g2, -⟩
      · have hfin := h.setObj (o' := .map (es.push { key := k, val := x, born := clock }) (clock + 1)) (obj' := .map (ES.push { key := k, val := x', born := clock }) (clock + 1)) hg hl rfl rfl
          ⟨hb0, ES.push { key := k, val := x', born := clock }, by simp [hlt], by
            rw [Array.toList_push, Array.toList_push]
            exact hE.append ⟨hfree, rfl, rfl, hx, trivial⟩⟩
        refine ⟨_, ?_, hfin.1, hfin.2⟩
        simp only [Instr.mapUpdate, Sem.run_bind, run_und E ht, Result.andThen_ok, hget, pureRun_ok _ _ hc w, g1, hset]
      · cases g2
    · cases hv
  · cases hv

/-! ### Iterators -/

def arange (E : Env P) (H : AHeap) (t : TypeId) (x : Value) : Option (Value × AHeap) :=
  match E.und t, x with
  | some .string, .string s => some (.pointer (some ⟨H.next, 0, none⟩), H.add (.str s 0))
  | some (.map _ _), .map none => some (.pointer (some ⟨H.next, 0, none⟩), H.add (.iter none 0 #[] 0))
  | some (.map _ _), .map (some m) => match H.get m with
    | some (.map _ clock) => some (.pointer (some ⟨H.next, 0, none⟩), H.add (.iter (some m) clock #[] clock))
    | _ => none
  | _, _ => none

theorem arange_ok (E : Env P) {G : Nat} {ν : Ren} {H H' : AHeap} {w : World} (h : HRel G ν H w) (hG : G ≤ H.next) {t : TypeId} {x x' v : Value} (hx : VRel ν x x') (hv : arange E H t x = some (v, H')) :
    ∃ v' w' ν', (Instr.range t x').run P w = .ok v' w' ∧ VRel ν' v v' ∧ HRel G ν' H' w' ∧ Later ν H w ν' H' w' := by
  unfold arange at hv
  split at hv
  · rename_i s ht
    cases hv; cases hx
    obtain ⟨h1, h2, h3⟩ := new_obj h hG (.str s 0) (.stringIter s 0) (fun ν' _ => ⟨rfl, by simp⟩)
    exact ⟨.pointer (some ⟨w.heap.size, 0, none⟩), _, _, by simp [Instr.range, run_und E ht], by simpa using VRel.ptr (off := 0) h3, h1, h2⟩
  · rename_i ht
    cases hv; cases hx
    obtain ⟨h1, h2, h3⟩ := new_obj h hG (.iter none 0 #[] 0) (.mapIter none 0 #[] 0) (fun ν' _ => ⟨rfl, none, by simp, rfl⟩)
    exact ⟨.pointer (some ⟨w.heap.size, 0, none⟩), _, _, by simp [Instr.range, run_und E ht], by simpa using VRel.ptr (off := 0) h3, h1, h2⟩
  · rename_i m ht
    split at hv
    · rename_i es clock hg
      cases hv
      cases hx with
      | @map _ l hl =>
        obtain ⟨-, ES, g1, -⟩ := h.notCells hg hl
        obtain ⟨h1, h2, h3⟩ := new_obj h hG (.iter (some m) clock #[] clock) (.mapIter (some l.block) clock #[] clock) (fun ν' he => ⟨rfl, some l.block, by simp, l, he _ _ hl, rfl⟩)
        exact ⟨.pointer (some ⟨w.heap.size, 0, none⟩), _, _, by simp [Instr.range, run_und E ht, getObj, Sem.run, g1], by simpa using VRel.ptr (off := 0) h3, h1, h2⟩
    · cases hv
  · cases hv

/-- A step: of a string's iterator; of a map's where one entry at most is to come. -/
def anext (H : AHeap) (it : Value) (isString : Bool) : Option (Value × AHeap) :=
  match it with
  | .pointer (some ⟨n, 0, none⟩) =>
    match H.get n, isString with
    | some (.str s pos), true =>
      if pos < s.size then some (.tuple #[.bool true, goInt pos, .int .i32 (Utf8.decode s pos).1], H.put n (some (.str s (pos + (Utf8.decode s pos).2))))
      else some (.tuple #[.bool false], H)
    | some (.iter none _ _ _), false => some (.tuple #[.bool false], H)
    | some (.iter (some m) since seen last), false =>
      match H.get m with
      | some (.map es clock) =>
        if !seen.isEmpty && !es.isEmpty && es.toList.all (fun e => last ≤ e.born) then none
        else
          match es.toList.filter (fun e => !seen.contains e.born) with
          | [] => some (.tuple #[.bool false], H)
          | [e] => if e.born < since then some (.tuple #[.bool true, e.key, e.val], H.put n (some (.iter (some m) since (seen.push e.born) clock))) else none
          | _ => none
      | _ => none
    | _, _ => none
  | _ => none

theorem VRel.tuple1 {ν : Ren} {a a' : Value} (h : VRel ν a a') : VRel ν (.tuple #[a]) (.tuple #[a']) := by
  have := (ARel.empty ν).push h
  exact .tuple this.1 this.2

theorem VRel.tuple3 {ν : Ren} {a a' b b' c c' : Value} (h : VRel ν a a') (k : VRel ν b b') (g : VRel ν c c') : VRel ν (.tuple #[a, b, c]) (.tuple #[a', b', c']) := by
  have := ((ARel.empty ν).push h).push k |>.push g
  exact .tuple this.1 this.2

theorem anext_ok {G : Nat} {ν : Ren} {H H' : AHeap} {w : World} (h : HRel G ν H w) {it it' v : Value} {b : Bool} {ty : TypeId} (hi : VRel ν it it') (hv : anext H it b = some (v, H')) :
    ∃ v' w', (Instr.next it' b ty).run P w = .ok v' w' ∧ VRel ν v v' ∧ HRel G ν H' w' ∧ Later ν H w ν H' w' := by
  unfold anext at hv
  split at hv
  case h_2 => cases hv
  rename_i n
  cases hi with
  | @ptr _ _ l hl =>
  have hlt : l.block < w.heap.size := h.block _ l hl
  split at hv
  · rename_i s pos hg
    obtain ⟨hb0, g1⟩ := h.notCells hg hl
    rw [hb0]
    split at hv
    · rename_i hp
      cases hv
      have hfin := h.setObj (o' := .str s (pos + (Utf8.decode s pos).2)) (obj' := .stringIter s (pos + (Utf8.decode s pos).2)) hg hl rfl rfl ⟨hb0, by simp [hlt]⟩
      refine ⟨.tuple #[.bool true, goInt pos, .int .i32 (Utf8.decode s pos).1], _, ?_, .tuple3 (.bool _) (.int _ _) (.int _ _), hfin.1, hfin.2⟩
      simp [Instr.next, getObj, setObj, Sem.run, g1, hp]
    · rename_i hp
      cases hv
      exact ⟨.tuple #[.bool false], w, by simp [Instr.next, getObj, Sem.run, g1, hp], .tuple1 (.bool _), h, Later.refl ν H w⟩
  · rename_i a1 a2 a3 hg
    obtain ⟨hb0, m', g1, g2⟩ := h.notCells hg hl
    cases g2
    rw [hb0]
    cases hv
    exact ⟨.tuple #[.bool false], w, by simp [Instr.next, getObj, Sem.run, g1], .tuple1 (.bool _), h, Later.refl ν H w⟩
  · rename_i m since seen last hg
    obtain ⟨hb0, m', g1, k, hk, rfl⟩ := h.notCells hg hl
    rw [hb0]
    split at hv
    case h_2 => cases hv
    rename_i es clock hgm
    obtain ⟨-, ES, q1, hE⟩ := h.notCells hgm hk
    split at hv
    · cases hv
    rename_i hstale
    have hstale' : (!seen.isEmpty && !ES.isEmpty && ES.all (fun e => decide (e.born ≥ last))) = false := by
      have e1 := hE.isEmpty
      have e2 := hE.all (fun b => decide (last ≤ b))
      rw [← Array.all_toList, e1]
      have : (ES.toList.all fun e => decide (e.born ≥ last)) = es.toList.all (fun e => decide (last ≤ e.born)) := e2
      rw [this]
      simpa using hstale
    have hfil := hE.filter (fun b => !seen.contains b)
    have hleft : ES.filter (fun e => !seen.contains e.born) = (ES.toList.filter (fun e => !seen.contains e.born)).toArray := by
      apply Array.ext'; simp
    split at hv
    · rename_i hnil
      cases hv
      rw [hnil] at hfil
      have hnil' : ES.toList.filter (fun e => !seen.contains e.born) = [] := by
        cases hq : ES.toList.filter (fun e => !seen.contains e.born) with
        | nil => rfl
        | cons a b => rw [hq] at hfil; exact hfil.elim
      rw [hnil'] at hleft
      refine ⟨.tuple #[.bool false], w, ?_, .tuple1 (.bool _), h, Later.refl ν H w⟩
      simp only [Instr.next, Sem.run_bind, getObj, Sem.run, g1, Result.andThen_ok, q1, hstale', Bool.false_eq_true, if_false, hleft]
      simp [Question.forced]
    · rename_i e hone
      split at hv
      · rename_i hold
        cases hv
        rw [hone] at hfil
        obtain ⟨e', hone', f1, f2, f3, f4⟩ : ∃ e', ES.toList.filter (fun e => !seen.contains e.born) = [e'] ∧ addrFree e.key = true ∧ e'.key = e.key ∧ e'.born = e.born ∧ VRel ν e.val e'.val := by
          cases hq : ES.toList.filter (fun e => !seen.contains e.born) with
          | nil => rw [hq] at hfil; exact hfil.elim
          | cons a b =>
            rw [hq] at hfil
            obtain ⟨p1, p2, p3, p4, p5⟩ := hfil
            cases b with
            | nil => exact ⟨a, rfl, p1, p2, p3, p4⟩
            | cons => exact p5.elim
        rw [hone'] at hleft
        have hfin := h.setObj (o' := .iter (some m) since (seen.push e.born) clock) (obj' := .mapIter (some k.block) since (seen.push e.born) clock) hg hl rfl rfl ⟨hb0, some k.block, by simp [hlt], k, hk, rfl⟩
        refine ⟨.tuple #[.bool true, e.key, e'.val], _, ?_, .tuple3 (.bool _) (.of_addrFree f1) f4, hfin.1, hfin.2⟩
        have hold2 : ¬ since ≤ e.born := by omega
        simp only [Instr.next, Sem.run_bind, getObj, Sem.run, g1, Result.andThen_ok, q1, hstale', Bool.false_eq_true, if_false, hleft]
        simp [Question.forced, hold, hold2, setObj, Sem.run, g1, f2, f3]
      · cases hv
    · cases hv
  · cases hv

def aentry (H : AHeap) (it : Value) : Option Value :=
  match it with
  | .pointer (some ⟨n, 0, none⟩) =>
    match H.get n with
    | some (.iter (some m) _ seen stepped) =>
      match seen.back?, H.get m with
      | some stamp, some (.map es clock) =>
        if clock = stepped then (es.toList.find? fun e => e.born == stamp).map fun e => .tuple #[e.key, e.val] else none
      | _, _ => none
    | _ => none
  | _ => none

theorem VRel.tuple2 {ν : Ren} {a a' b b' : Value} (h : VRel ν a a') (k : VRel ν b b') : VRel ν (.tuple #[a, b]) (.tuple #[a', b']) := by
  have := ((ARel.empty ν).push h).push k
  exact .tuple this.1 this.2

theorem aentry_ok {G : Nat} {ν : Ren} {H : AHeap} {w : World} (h : HRel G ν H w) {it it' v : Value} (hi : VRel ν it it') (hv : aentry H it = some v) :
    ∃ v', (Instr.entry it').run P w = .ok v' w ∧ VRel ν v v' := by
  unfold aentry at hv
  split at hv
  case h_2 => cases hv
  rename_i n
  split at hv
  case h_2 => cases hv
  rename_i m since seen stepped hg
  split at hv
  case h_2 => cases hv
  rename_i stamp es clock hs hgm
  split at hv
  case isFalse => cases hv
  rename_i hc
  obtain ⟨e, he, rfl⟩ := Option.map_eq_some_iff.1 hv
  cases hi with
  | @ptr _ _ l hl =>
  obtain ⟨hb0, m', g1, k, hk, rfl⟩ := h.notCells hg hl
  obtain ⟨-, ES, q1, hE⟩ := h.notCells hgm hk
  rw [hb0]
  obtain ⟨e', p1, p2, p3, p4, p5⟩ := hE.find? (fun b => b == stamp) he
  have p1' : ES.find? (fun e => e.born == stamp) = some e' := by rw [← Array.find?_toList]; exact p1
  refine ⟨.tuple #[e.key, e'.val], ?_, .tuple2 (.of_addrFree p2) p5⟩
  simp [Instr.entry, getObj, Sem.run, g1, hs, q1, hc, p1', p3]

/-! ### More builtins -/

/-- The length of a slice, a string or a map. -/
def alen (E : Env P) (H : AHeap) (t : TypeId) (x : Value) : Option Value :=
  match E.und t, x with
  | some .string, .string s => some (goInt s.size)
  | some (.slice _), .slice _ n _ => some (goInt n)
  | some (.map _ _), .map none => some (goInt 0)
  | some (.map _ _), .map (some r) => match H.get r with
    | some (.map es _) => some (goInt es.size)
    | _ => none
  | _, _ => none

theorem alen_ok (E : Env P) {G : Nat} {ν : Ren} {H : AHeap} {w : World} (h : HRel G ν H w) {t ty : TypeId} {x x' v : Value} (hx : VRel ν x x') (hv : alen E H t x = some v) :
    ∃ v', (Builtin.len_ #[t] ty #[x']).run P w = .ok v' w ∧ VRel ν v v' := by
  unfold alen at hv
  split at hv
  · rename_i s ht; cases hv; cases hx; exact ⟨goInt s.size, by simp [Builtin.len_, run_und E ht], .int _ _⟩
  · rename_i e a n c ht; cases hv; refine ⟨goInt n, ?_, .int _ _⟩; cases hx <;> simp [Builtin.len_, run_und E ht]
  · rename_i a b ht; cases hv; cases hx; exact ⟨goInt 0, by simp [Builtin.len_, run_und E ht], .int _ _⟩
  · rename_i a b r ht
    split at hv
    · rename_i es c hg
      cases hv
      cases hx with
      | @map _ l hl =>
        obtain ⟨-, ES, q1, hE⟩ := h.notCells hg hl
        have := hE.length
        simp only [Array.length_toList] at this
        exact ⟨goInt ES.size, by simp [Builtin.len_, run_und E ht, getObj, Sem.run, q1], by rw [this]; exact .int _ _⟩
    · cases hv
  · cases hv

/-- The capacity of nil, and of a slice of a block that has just its cells. -/
def acap (E : Env P) (H : AHeap) (t : TypeId) (x : Value) : Option Value :=
  match E.und t, x with
  | some (.slice _), .slice none 0 0 => some (goInt 0)
  | some (.slice _), .slice (some ⟨n, _, none⟩) _ cap => match H.get n with
    | some (.cells _ _ none _ _) => some (goInt cap)
    | _ => none
  | _, _ => none

theorem acap_ok (E : Env P) {G : Nat} {ν : Ren} {H : AHeap} {w : World} (h : HRel G ν H w) {t ty : TypeId} {x x' v : Value} (hx : VRel ν x x') (hv : acap E H t x = some v) :
    ∃ v', (Builtin.cap_ #[t] ty #[x']).run P w = .ok v' w ∧ VRel ν v v' := by
  unfold acap at hv
  split at hv
  · rename_i e ht; cases hv; cases hx; exact ⟨goInt 0, by simp [Builtin.cap_, run_und E ht], .int _ _⟩
  · rename_i e n off len cap ht
    split at hv
    · rename_i c el live olds hg
      cases hv
      cases hx with
      | @slice _ _ _ _ cap' l hl _ _ hf _ =>
        have := hf (h.grow hg hl)
        subst this
        exact ⟨goInt cap, by simp [Builtin.cap_, run_und E ht], .int _ _⟩
    · cases hv
  · cases hv

/-- clear(s) of a slice. -/
def aclear (E : Env P) (H : AHeap) (t : TypeId) (x : Value) : Option AHeap :=
  match E.und t, x with
  | some (.slice _), .slice none 0 0 => some H
  | some (.slice _), .slice (some ⟨_, _, some _⟩) 0 0 => some H
  | some (.slice e), .slice (some ⟨n, off, none⟩) len _ =>
    if len = 0 then some H
    else
      match H.get n, E.info e with
      | some (.cells c elem grow true olds), some i => match i.zero with
        | some z =>
          if z.cells.toList.all flat = true ∧ z.cells.toList.all (·.oneCell') = true ∧ off + len * z.cells.size ≤ c.size then some (H.write n (splice c off (zeros z.cells len)) elem grow olds) else none
        | none => none
      | _, _ => none
  | _, _ => none

theorem zeros_oneCell {z : Array Value} (h : z.toList.all (·.oneCell') = true) (n : Nat) : ∀ v ∈ (zeros z n).toList, v.oneCell' = true := by
  intro v hv
  simp only [zeros, List.mem_flatten, List.mem_replicate] at hv
  obtain ⟨l, ⟨-, rfl⟩, hv⟩ := hv
  exact List.all_eq_true.1 h v hv

theorem aclear_ok (E : Env P) {G : Nat} {ν : Ren} {H H' : AHeap} {w : World} (h : HRel G ν H w) {t ty : TypeId} {x x' : Value} (hx : VRel ν x x') (hv : aclear E H t x = some H') :
    ∃ w', (Builtin.clear_ #[t] ty #[x']).run P w = .ok (.tuple #[]) w' ∧ HRel G ν H' w' ∧ Later ν H w ν H' w' := by
  unfold aclear at hv
  split at hv
  · rename_i e ht; cases hv; cases hx
    exact ⟨w, by simp [Builtin.clear_, run_und E ht], h, Later.refl ν H w⟩
  · rename_i e a b c ht; cases hv
    cases hx <;> exact ⟨w, by simp [Builtin.clear_, run_und E ht], h, Later.refl ν H w⟩
  · rename_i e n off len cap ht
    cases hx with
    | @slice _ _ _ _ cap' l hl _ _ _ _ =>
    split at hv
    · rename_i h0; subst h0; cases hv
      exact ⟨w, by simp [Builtin.clear_, run_und E ht], h, Later.refl ν H w⟩
    · rename_i h0
      split at hv
      · rename_i c elem grow olds i hg hi
        split at hv
        · rename_i z hz
          split at hv
          · rename_i hc
            obtain ⟨c1, c2, c3⟩ := hc
            cases hv
            obtain ⟨w', s1, s2, s3⟩ := h.storeCells hg hl (off := off) (vs := zeros z.cells len) (vs' := zeros z.cells len) (by rw [zeros_size]; exact c3) (ARel.of_flat (zeros_flat c1 len)) (zeros_oneCell c2 len) P
            have hzc : Builtin.zeroCells z.cells len = zeros z.cells len := by rw [zeros_eq]; rfl
            refine ⟨w', ?_, s2, s3⟩
            cases len with
            | zero => exact absurd rfl h0
            | succ k => simp [Builtin.clear_, run_und E ht, run_zero E hi hz, hzc, s1]
          · cases hv
        · cases hv
      · cases hv
  · cases hv

/-- make([]T, len, cap). -/
def amakeSlice (E : Env P) (H : AHeap) (t : TypeId) (len cap : Value) : Option (Value × AHeap) :=
  match E.und t, len, cap with
  | some (.slice e), .int .i64 l, .int .i64 c =>
    match E.info e with
    | some i => match i.zero with
      | some z =>
        if 0 ≤ l ∧ l ≤ c ∧ c ≤ 9223372036854775807 ∧ i.bytes * c.toNat ≤ 281474976710656 ∧ z.cells.toList.all flat = true ∧ z.cells.size = i.size ∧ 0 < i.size then
          some (.slice (some ⟨H.next, 0, none⟩) l.toNat c.toNat, H.add (.cells (zeros z.cells c.toNat) e none true []))
        else none
      | none => none
    | none => none
  | _, _, _ => none

theorem amakeSlice_ok (E : Env P) {G : Nat} {ν : Ren} {H H' : AHeap} {w : World} (h : HRel G ν H w) (hG : G ≤ H.next) {t : TypeId} {a a' b b' v : Value} (ha : VRel ν a a') (hb : VRel ν b b') (hv : amakeSlice E H t a b = some (v, H')) :
    ∃ v' w' ν', (Instr.makeSlice t a' b').run P w = .ok v' w' ∧ VRel ν' v v' ∧ HRel G ν' H' w' ∧ Later ν H w ν' H' w' := by
  unfold amakeSlice at hv
  split at hv
  case h_2 => cases hv
  rename_i e l c ht
  split at hv
  case h_2 => cases hv
  rename_i i hi
  split at hv
  case h_2 => cases hv
  rename_i z hz
  split at hv
  case isFalse => cases hv
  rename_i hc
  obtain ⟨c1, c2, c3, c4, c5, c6, c7⟩ := hc
  cases hv; cases ha; cases hb
  obtain ⟨g1, g2, g3⟩ := new_row h hG e (ARel.of_flat (ν := ν) (zeros_flat c5 c.toNat)) w.drawn
  refine ⟨.slice (some ⟨w.heap.size, 0, none⟩) l.toNat c.toNat, _, _, ?_, by simpa using VRel.slice (off := 0) g3 (show l.toNat ≤ c.toNat by omega) (Nat.le_refl _) (fun _ => rfl) (by simp), g1, g2⟩
  have hbytes : (i.bytes : Int) * c ≤ 281474976710656 := by
    have : ((i.bytes * c.toNat : Nat) : Int) = (i.bytes : Int) * c := by rw [Int.natCast_mul]; congr 1; omega
    omega
  have hr := run_make (P := P) w t e i z (E.hund ht) (E.hinfo hi) hz .i64 .i64 l c c1 c2 hbytes c3
  rw [hr]
  have hm : madeCells z.cells (c.toNat * i.size) = zeros z.cells c.toNat := by rw [zeros_eq, madeCells, c6]
  rw [hm]
  rfl
end
end Go.Ev
/- One operation of the evaluator. -/
namespace Go.Ev
noncomputable section
variable {P : Program}

/-! ### Activations -/

def DRel (ν : Ren) : List Deferred → List Deferred → Prop
  | [], [] => True
  | d :: ds, d' :: ds' => (∃ n l, d.target = .collected n ∧ ν n = some l ∧ d'.target = .collected l.block) ∧ DRel ν ds ds'
  | _, _ => False

theorem DRel.ext {ν ν' : Ren} (he : ExtTo ν ν') : ∀ {ds ds' : List Deferred}, DRel ν ds ds' → DRel ν' ds ds'
  | [], [], _ => trivial
  | _ :: _, _ :: _, ⟨⟨n, l, h1, h2, h3⟩, h4⟩ => ⟨⟨n, l, h1, he _ _ h2, h3⟩, h4.ext he⟩

structure ActRel (ν : Ren) (a b : Act) : Prop where
  tmps : ARel ν a.tmps b.tmps
  defers : DRel ν a.defers b.defers

theorem ActRel.ext {ν ν' : Ren} (he : ExtTo ν ν') {a b : Act} (h : ActRel ν a b) : ActRel ν' a b := ⟨h.tmps.ext he, h.defers.ext he⟩

theorem ActRel.put {ν : Ren} {a b : Act} (h : ActRel ν a b) (d : Option Tmp) {v v' : Value} (hv : VRel ν v v') : ActRel ν (a.put d v) (b.put d v') := by
  cases d with
  | none => exact h
  | some d => exact ⟨h.tmps.set d hv, h.defers⟩

/-- An operand that the evaluator takes. -/
def okOpd (G : Nat) : Operand → Bool
  | .const v => addrFree v
  | .global g => decide (g < G)
  | _ => true

theorem eval_rel {G : Nat} {ν : Ren} {H : AHeap} {w : World} (h : HRel G ν H w) {a b : Act} (hab : ActRel ν a b) {x : Operand} (hx : okOpd G x = true) : VRel ν (a.eval x) (b.eval x) := by
  cases x with
  | tmp t => exact hab.tmps.getD t
  | const v => exact .of_addrFree hx
  | global g =>
    obtain ⟨l, h1, h2, h3⟩ := h.glob g (by simpa [okOpd] using hx)
    have := VRel.ptr (off := 0) h1
    rw [h2, h3] at this
    exact this
  | func f => exact .func (.same (by simp)) rfl rfl (fun i hi => absurd hi (Nat.not_lt_zero i)) (fun i hi => absurd hi (Nat.not_lt_zero i))

/-! ### Comparisons with nil, and bytes as a string -/

def aeqNil (E : Env P) (t : TypeId) (x y : Value) : Option Bool :=
  match E.und t, x, y with
  | some (.pointer _), .pointer (some _), .pointer none => some false
  | some (.pointer _), .pointer none, .pointer (some _) => some false
  | some (.slice _), .slice (some _) _ _, .slice none 0 0 => some false
  | some (.slice _), .slice none 0 0, .slice (some _) _ _ => some false
  | some (.map _ _), .map (some _), .map none => some false
  | some (.map _ _), .map none, .map (some _) => some false
  | some (.func _ _ _), .func _ _ _, .nilFunc => some false
  | some (.func _ _ _), .nilFunc, .func _ _ _ => some false
  | some (.interface _), .iface _ _, .nilIface => some false
  | some (.interface _), .nilIface, .iface _ _ => some false
  | _, _, _ => none

theorem aeqNil_ok (E : Env P) {ν : Ren} {t : TypeId} {x x' y y' : Value} {b : Bool} {w : World} (hx : VRel ν x x') (hy : VRel ν y y') (h : aeqNil E t x y = some b) :
    (Op.equal t x' y').run P w = .ok b w ∧ (∀ op c d, (eqGuard op t c d x' y').run P w = .ok () w) ∧ (∀ k n, x' ≠ .int k n) ∧
      (binOp .eql t x' y').run P w = .ok (.bool b) w ∧ (binOp .neq t x' y').run P w = .ok (.bool !b) w := by
  have key0 : ∀ d, (Op.equalIn (d + 1) t x' y').run P w = .ok b w := by
    intro d
    unfold aeqNil at h
    split at h <;> first
      | (cases h; done)
      | (rename_i ht; cases h; cases hx <;> cases hy <;> simp [Op.equalIn, run_und E ht])
  have key : (Op.equal t x' y').run P w = .ok b w := key0 9999
  refine ⟨key, ?_, ?_, ?_, ?_⟩
  · intro op c d
    unfold aeqNil at h
    split at h <;> first
      | (cases h; done)
      | (cases hx <;> cases hy <;> cases op <;> simp [eqGuard])
  · intro k n e
    unfold aeqNil at h
    split at h <;> first
      | (cases h; done)
      | (cases hx <;> cases e)
  · unfold aeqNil at h
    split at h <;> first
      | (cases h; done)
      | (cases hx <;> cases hy <;> simp only [binOp, Sem.run_bind, key, Result.andThen_ok, Sem.run_pure])
  · unfold aeqNil at h
    split at h <;> first
      | (cases h; done)
      | (cases hx <;> cases hy <;> simp only [binOp, Sem.run_bind, key, Result.andThen_ok, Sem.run_pure])

/-- The number that a byte's cell holds. -/
def byteOf? : Value → Option Int
  | .int .u8 n => some n
  | _ => none

def abytes (E : Env P) (H : AHeap) (src dst : TypeId) (x : Value) : Option Value :=
  match E.und src, E.und dst, x with
  | some (.slice e), some .string, x =>
    match E.und e, x with
    | some (.int .u8), .slice none 0 0 => some (.string .empty)
    | some (.int .u8), .slice (some ⟨_, _, some _⟩) 0 0 => some (.string .empty)
    | some (.int .u8), .slice (some ⟨n, off, none⟩) len _ =>
      match H.get n with
      | some (.cells c _ _ _ _) =>
        if off + len ≤ c.size then
          match (cellsOf c off len).toList.mapM byteOf? with
          | some ns => some (.string (ns.foldl (fun r n => r.push (UInt8.ofNat n.toNat)) ByteArray.empty))
          | none => none
        else none
      | _ => none
    | _, _ => none
  | _, _, _ => none

theorem bytes_map : ∀ (l : List Value) (ns : List Int), l.mapM byteOf? = some ns → l = ns.map (Value.int .u8)
  | [], ns, h => by simp at h; subst h; rfl
  | v :: l, ns, h => by
    simp only [List.mapM_cons, Option.bind_eq_bind, Option.pure_def] at h
    cases hv : byteOf? v with
    | none => simp [hv] at h
    | some n =>
      cases hl : l.mapM byteOf? with
      | none => simp [hv, hl] at h
      | some r =>
        simp [hv, hl] at h
        subst h
        have : v = .int .u8 n := by
          unfold byteOf? at hv
          split at hv
          · cases hv; rfl
          · cases hv
        rw [this, bytes_map l r hl]; rfl

theorem abytes_ok (E : Env P) {G : Nat} {ν : Ren} {H : AHeap} {w : World} (h : HRel G ν H w) {src dst : TypeId} {x x' v : Value} (hx : VRel ν x x') (hv : abytes E H src dst x = some v) :
    ∃ v', (convert src dst x').run P w = .ok v' w ∧ VRel ν v v' := by
  unfold abytes at hv
  split at hv
  case h_2 => cases hv
  rename_i e hs hd
  split at hv
  · rename_i he; cases hv; cases hx
    exact ⟨.string .empty, by simp [convert, run_und E hs, run_und E hd, run_und E he, Conv.bytesToString], .string _⟩
  · rename_i he; cases hv
    cases hx with
    | @empty _ _ cap' a =>
      have := run_bytesToString (P := P) w a 0 cap' [] (by simp [loadCells, loadCellsFrom])
      exact ⟨.string .empty, by simp [convert, run_und E hs, run_und E hd, run_und E he]; exact this, .string _⟩
    | @empty0 _ _ a =>
      have := run_bytesToString (P := P) w a 0 0 [] (by simp [loadCells, loadCellsFrom])
      exact ⟨.string .empty, by simp [convert, run_und E hs, run_und E hd, run_und E he]; exact this, .string _⟩
  · rename_i n off len cap he
    split at hv
    case h_2 => cases hv
    rename_i c el grow live olds hg
    split at hv
    case isFalse => cases hv
    rename_i hk
    split at hv
    case h_2 => cases hv
    rename_i ns hns
    cases hv
    cases hx with
    | @slice _ _ _ _ cap' l hl _ _ _ _ =>
    obtain ⟨cs', h1, h2⟩ := h.loadCells hg hl hk P
    have e1 := bytes_map _ _ hns
    have e2 : cs' = (ns.map (Value.int .u8)).toArray := by
      have hflat : (cellsOf c off len).toList.all flat = true := by
        rw [e1]; simp [flat]
      rw [h2.flat_eq hflat]
      apply Array.ext'
      simpa using e1
    rw [e2] at h1
    have := run_bytesToString (P := P) w ⟨l.block, l.base + off, none⟩ len cap' ns h1
    exact ⟨_, by simp [convert, run_und E hs, run_und E hd, run_und E he]; exact this, .string _⟩
  · cases hv
end
end Go.Ev
/- All operations of the evaluator together. -/
namespace Go.Ev
noncomputable section
variable {P : Program}

inductive OpRes where
  | val (v : Value) (H : AHeap)
  | call (f : FuncId) (args : Array Value)
  | round (l : Nat) (args : Array Value)

def val1 (H : AHeap) : Option Value → Option OpRes
  | some v => some (.val v H)
  | none => none
def val2 : Option (Value × AHeap) → Option OpRes
  | some p => some (.val p.1 p.2)
  | none => none
def valU : Option AHeap → Option OpRes
  | some H => some (.val undef H)
  | none => none

/-- An operation on values without names. -/
def apure (P : Program) (H : AHeap) (a : Act) (o : Oper) : Option OpRes :=
  if o.op.operands.all (fun x => addrFree (a.eval x)) = true then
    match pureRun P (execOp a.eval o) with
    | some (.value v) => if addrFree v = true then some (.val v H) else none
    | _ => none
  else none

def isSelect : Op → Bool
  | .select .. => true
  | _ => false

def vlist (a : Act) (ps : Array (Nat × Operand)) : List (Nat × Value) := ps.toList.map fun p => (p.1, a.eval p.2)

def notPtr : TypeDesc → Bool
  | .pointer _ => false
  | _ => true

/-- The method that an interface value calls: one of a value, declared on its type itself. -/
def amethod (E : Env P) (recv : Value) (name : String) : Option (FuncId × Value) :=
  match recv with
  | .iface t v =>
    match E.info t, E.und t with
    | some i, some d =>
      match i.methods.find? (·.name == name) with
      | some m => match m.func with
        | some (f, false) => if m.path.isEmpty = true ∧ notPtr d = true then some (f, v) else none
        | _ => none
      | none => none
    | _, _ => none
  | _ => none

def acall (E : Env P) (H : AHeap) (a : Act) (o : Oper) (c : Call) : Option OpRes :=
  match c.callee with
  | .builtin b =>
    match b with
    | .append => if h : c.args.size = 2 ∧ c.argTypes.size = 2 then val2 (aappend E H c.argTypes[0] c.argTypes[1] (a.eval c.args[0]) (a.eval c.args[1])) else none
    | .len => if h : c.args.size = 1 ∧ c.argTypes.size = 1 then val1 H (alen E H c.argTypes[0] (a.eval c.args[0])) else none
    | .cap => if h : c.args.size = 1 ∧ c.argTypes.size = 1 then val1 H (acap E H c.argTypes[0] (a.eval c.args[0])) else none
    | .clear => if h : c.args.size = 1 ∧ c.argTypes.size = 1 then valU (aclear E H c.argTypes[0] (a.eval c.args[0])) else none
    | .max | .min => apure P H a o
    | _ => none
  | .value f =>
    match a.eval f with
    | .func (.func f) first captured => match E.func f with
      | some _ => some (.call f (first ++ c.args.map a.eval ++ captured))
      | none => none
    | .func (.yield l) first _ => some (.round l (first ++ c.args.map a.eval))
    | _ => none
  | .invoke recv name =>
    match amethod E (a.eval recv) name with
    | some (f, v) => match E.func f with
      | some _ => some (.call f (#[v] ++ c.args.map a.eval))
      | none => none
    | none => none

def abin (E : Env P) (H : AHeap) (a : Act) (o : Oper) (op : BinOp) (t : TypeId) (x y : Operand) : Option OpRes :=
  match op with
  | .eql => match aeqNil E t (a.eval x) (a.eval y) with
    | some b => some (.val (.bool b) H)
    | none => apure P H a o
  | .neq => match aeqNil E t (a.eval x) (a.eval y) with
    | some b => some (.val (.bool !b) H)
    | none => apure P H a o
  | _ => apure P H a o

def aop (E : Env P) (H : AHeap) (a : Act) (o : Oper) : Option OpRes :=
  match o.op with
  | .move x | .assign x => some (.val (a.eval x) H)
  | .pick c x y => match a.eval c with
    | .bool b => some (.val (if b then a.eval x else a.eval y) H)
    | _ => none
  | .alloc t => val2 (aalloc E H t)
  | .box t x => some (.val (abox H t (a.eval x)).1 (abox H t (a.eval x)).2)
  | .build t ps => val1 H (abuild E t (vlist a ps))
  | .buildSlice t n ps => val2 (abuildSlice E H t n (vlist a ps))
  | .load t x => val1 H (aload E H t (a.eval x))
  | .store t x v => valU (astore E H t (a.eval x) (a.eval v))
  | .nilCheck x => match a.eval x with
    | .pointer (some p) => some (.val (.pointer (some p)) H)
    | .func (.func f) q r => some (.val (.func (.func f) q r) H)
    | .func (.yield f) q r => some (.val (.func (.yield f) q r) H)
    | _ => none
  | .binOp op t x y _ => abin E H a o op t x y
  | .convert src dst x => match a.eval x with
    | .slice .. => val1 H (abytes E H src dst (a.eval x))
    | _ => apure P H a o
  | .makeInterface t x => val1 H (amakeIface E t (a.eval x))
  | .makeFunc (.func f) first cap => some (.val (.func (.func f) (first.map a.eval) (cap.map a.eval)) H)
  | .makeMap _ none => some (.val (amakeMap H).1 (amakeMap H).2)
  | .makeSlice t l c => val2 (amakeSlice E H t (a.eval l) (a.eval c))
  | .slice t x lo hi none => match a.eval x with
    | .string _ => apure P H a o
    | _ => val1 H (aslice E H t (a.eval x) (lo.map a.eval) (hi.map a.eval))
  | .fieldAddr t x f => val1 H (afieldAddr E t (a.eval x) f)
  | .field t x f => val1 H (afield E t (a.eval x) f)
  | .indexAddr t x i => val1 H (aindexAddr E t (a.eval x) (a.eval i))
  | .index t x i => match a.eval x with
    | .string _ => apure P H a o
    | _ => val1 H (aindex E t (a.eval x) (a.eval i))
  | .lookup t x i ok => val1 H (alookup E H t (a.eval x) (a.eval i) ok)
  | .mapUpdate t m k x | .insert t m k x => valU (amapUpdate E H t (a.eval m) (a.eval k) (a.eval x))
  | .range t x => val2 (arange E H t (a.eval x))
  | .next it s => val2 (anext H (a.eval it) s)
  | .entry it => val1 H (aentry H (a.eval it))
  | .extract t i => val1 H (aextract (a.eval t) i)
  | .call c => acall E H a o c
  | .unOp .. => apure P H a o
  | _ => none

/-- What the machine's operation comes to. -/
def OpPost (P : Program) (G : Nat) (ν : Ren) (H : AHeap) (w : World) (b : Act) (o : Oper) : OpRes → Prop
  | .val v H' => ∃ r v' w' ν', (execOp b.eval o).run P w = .ok r w' ∧ (r = .value v' ∨ (r = .skip ∧ v' = undef)) ∧ VRel ν' v v' ∧ HRel G ν' H' w' ∧ Later ν H w ν' H' w'
  | .call f args => ∃ args', (execOp b.eval o).run P w = .ok (.enter f args') w ∧ ARel ν args args'
  | .round l args => ∃ k args', ν l = some k ∧ (execOp b.eval o).run P w = (Instr.yield k.block args').run P w ∧ ARel ν args args'

section
variable (E : Env P) {G : Nat} {ν : Ren} {H : AHeap} {w : World} {a b : Act} {o : Oper}

theorem OpPost.of1 {G : Nat} {ν : Ren} {H : AHeap} {w : World} {b : Act} {o : Oper} (h : HRel G ν H w) {v v' : Value} (hr : (execOp b.eval o).run P w = .ok (.value v') w) (hv : VRel ν v v') : OpPost P G ν H w b o (.val v H) :=
  ⟨_, v', w, ν, hr, .inl rfl, hv, h, Later.refl ν H w⟩

theorem apure_ok (h : HRel G ν H w) (hok : ∀ x ∈ o.op.operands, VRel ν (a.eval x) (b.eval x)) (hs : isSelect o.op = false) {r : OpRes} (hr : apure P H a o = some r) : OpPost P G ν H w b o r := by
  unfold apure at hr
  split at hr
  case isFalse => cases hr
  rename_i hfree
  split at hr
  case h_2 => cases hr
  rename_i v hp
  split at hr
  case isFalse => cases hr
  rename_i hv
  cases hr
  have hall : ∀ x ∈ o.op.operands, b.eval x = a.eval x := by
    intro x hx
    have h1 := (hok x hx)
    have h2 : addrFree (a.eval x) = true := by
      have := Array.all_eq_true_iff_forall_mem.1 hfree x hx
      simpa using this
    exact h1.addrFree_eq h2
  have he : execOp b.eval o = execOp a.eval o := execOp_congr o (fun cs bb e => by rw [e] at hs; simp [isSelect] at hs) hall
  exact ⟨_, v, w, ν, by rw [he]; exact pureRun_ok _ _ hp w, .inl rfl, .of_addrFree hv, h, Later.refl ν H w⟩

theorem partsRel_map (h : HRel G ν H w) : ∀ (l : List (Nat × Operand)), (∀ p ∈ l, VRel ν (a.eval p.2) (b.eval p.2)) → partsRel ν (l.map fun p => (p.1, a.eval p.2)) (l.map fun p => (p.1, b.eval p.2))
  | [], _ => trivial
  | p :: l, hp => ⟨rfl, (hp p (by simp)), partsRel_map h l (fun q hq => hp q (by simp [hq]))⟩

theorem args_rel (_h : HRel G ν H w) (xs : Array Operand) (hx : ∀ x ∈ xs, VRel ν (a.eval x) (b.eval x)) : ARel ν (xs.map a.eval) (xs.map b.eval) :=
  ARel.map fun x hm => (hx x hm)

theorem run_callFunc {f : FuncId} {fn : Func} (hf : E.func f = some fn) (hbody : fn.body.isSome = true) (hname : (fn.name == "runtime.NumGoroutine") = false) (args : Array Value) :
    (callFunc f args).run P w = .ok (.enter f args) w := by
  have h1 := E.hfunc hf
  have h2 : fn.body.isNone = false := by cases hb : fn.body <;> simp [hb] at hbody ⊢
  simp only [callFunc, Sem.run_bind, run_program, Result.andThen_ok, h1, hname, h2, Bool.false_eq_true, if_false, Sem.run_pure]
end

theorem map1 {α β : Type} (f : α → β) (xs : Array α) (h : xs.size = 1) : xs.map f = #[f (xs[0]'(by omega))] := by
  obtain ⟨l⟩ := xs
  match l, h with
  | [x], _ => simp
theorem arr1 {α : Type} (xs : Array α) (h : xs.size = 1) : xs = #[xs[0]'(by omega)] := by
  obtain ⟨l⟩ := xs
  match l, h with
  | [x], _ => rfl
theorem map2 {α β : Type} (f : α → β) (xs : Array α) (h : xs.size = 2) : xs.map f = #[f (xs[0]'(by omega)), f (xs[1]'(by omega))] := by
  obtain ⟨l⟩ := xs
  match l, h with
  | [x, y], _ => simp
theorem arr2 {α : Type} (xs : Array α) (h : xs.size = 2) : xs = #[xs[0]'(by omega), xs[1]'(by omega)] := by
  obtain ⟨l⟩ := xs
  match l, h with
  | [x, y], _ => rfl

/-- The functions that the evaluator's table gives have bodies, and are none of the model's own. -/
def Env.Good (E : Env P) : Prop := ∀ f fn, E.func f = some fn → fn.body.isSome = true ∧ (fn.name == "runtime.NumGoroutine") = false

theorem acall_ok (E : Env P) (hE : E.Good) {G : Nat} {ν : Ren} {H : AHeap} {w : World} {a b : Act} {o : Oper} (h : HRel G ν H w) (hG : G ≤ H.next) (c : Call) (ho : o.op = .call c) (hok : ∀ x ∈ o.op.operands, VRel ν (a.eval x) (b.eval x))
    {r : OpRes} (hr : acall E H a o c = some r) : OpPost P G ν H w b o r := by
  have hargs : ∀ x ∈ c.args, VRel ν (a.eval x) (b.eval x) := fun x hx => hok x (by rw [ho]; simp [Op.operands, Call.operands, hx])
  unfold acall at hr
  split at hr
  · rename_i bb hcal
    have hexec : ∀ (args : Array Value), args = c.args.map b.eval → execOp b.eval o = builtin bb c.argTypes o.type (c.args.map fun | .const _ => true | _ => false) args := by
      intro args hargs'
      subst hargs'
      simp only [execOp, ho, resolve, hcal]; rfl
    split at hr
    · -- append
      split at hr
      case isFalse => cases hr
      rename_i hsz
      unfold val2 at hr
      split at hr
      case h_2 => cases hr
      rename_i p hp
      cases hr
      obtain ⟨v', w', ν', h1, h2, h3, h4⟩ := aappend_ok (ty := o.type) E h hG ((hargs _ (Array.getElem_mem (by omega)))) ((hargs _ (Array.getElem_mem (by omega)))) hp
      have e1 := map2 b.eval c.args hsz.1
      have e2 := arr2 c.argTypes hsz.2
      refine ⟨.value v', v', w', ν', ?_, .inl rfl, h2, h3, h4⟩
      rw [hexec _ rfl, e1]
      simp only [builtin, Sem.run_bind]
      have h1' : (Builtin.append_ c.argTypes o.type #[b.eval c.args[0], b.eval c.args[1]]).run P w = .ok v' w' := by
        rw [e2]; exact h1
      rw [h1']; rfl
    · split at hr
      case isFalse => cases hr
      rename_i hsz
      unfold val1 at hr
      split at hr
      case h_2 => cases hr
      rename_i v hv
      cases hr
      obtain ⟨v', h1, h2⟩ := alen_ok (ty := o.type) E h ((hargs _ (Array.getElem_mem (by omega)))) hv
      have e1 := map1 b.eval c.args hsz.1
      have e2 := arr1 c.argTypes hsz.2
      refine OpPost.of1 h (v' := v') ?_ h2
      rw [hexec _ rfl, e1]
      simp only [builtin, Sem.run_bind]
      have h1' : (Builtin.len_ c.argTypes o.type #[b.eval c.args[0]]).run P w = .ok v' w := by rw [e2]; exact h1
      rw [h1']; rfl
    · split at hr
      case isFalse => cases hr
      rename_i hsz
      unfold val1 at hr
      split at hr
      case h_2 => cases hr
      rename_i v hv
      cases hr
      obtain ⟨v', h1, h2⟩ := acap_ok (ty := o.type) E h ((hargs _ (Array.getElem_mem (by omega)))) hv
      have e1 := map1 b.eval c.args hsz.1
      have e2 := arr1 c.argTypes hsz.2
      refine OpPost.of1 h (v' := v') ?_ h2
      rw [hexec _ rfl, e1]
      simp only [builtin, Sem.run_bind]
      have h1' : (Builtin.cap_ c.argTypes o.type #[b.eval c.args[0]]).run P w = .ok v' w := by rw [e2]; exact h1
      rw [h1']; rfl
    · split at hr
      case isFalse => cases hr
      rename_i hsz
      unfold valU at hr
      split at hr
      case h_2 => cases hr
      rename_i H' hv
      cases hr
      obtain ⟨w', h1, h2, h3⟩ := aclear_ok (ty := o.type) E h ((hargs _ (Array.getElem_mem (by omega)))) hv
      have e1 := map1 b.eval c.args hsz.1
      have e2 := arr1 c.argTypes hsz.2
      refine ⟨.value undef, undef, w', ν, ?_, .inl rfl, VRel.und ν, h2, h3⟩
      rw [hexec _ rfl, e1]
      simp only [builtin, Sem.run_bind]
      have h1' : (Builtin.clear_ c.argTypes o.type #[b.eval c.args[0]]).run P w = .ok (.tuple #[]) w' := by rw [e2]; exact h1
      rw [h1']; rfl
    · exact apure_ok h hok (by rw [ho]; rfl) hr
    · exact apure_ok h hok (by rw [ho]; rfl) hr
    · cases hr
  · rename_i f hcal
    have hfok : VRel ν (a.eval f) (b.eval f) := hok f (by rw [ho]; simp [Op.operands, Call.operands, hcal])
    have hf := hfok
    have hargsrel := args_rel h c.args hargs
    split at hr
    · rename_i g first captured hev
      split at hr
      case h_2 => cases hr
      rename_i fn hfn
      cases hr
      rw [hev] at hf
      generalize hbf : b.eval f = bf at hf
      cases hf with
      | @func _ f' _ first' _ captured' hfr hs1 hs2 i1 i2 =>
      cases hfr with
      | same hne =>
        refine ⟨first' ++ c.args.map b.eval ++ captured', ?_, ARel.append (ARel.append ⟨hs1, i1⟩ hargsrel) ⟨hs2, i2⟩⟩
        obtain ⟨g1, g2⟩ := hE g fn hfn
        simp only [execOp, ho, resolve, hcal, hbf, Deferred.ofValue, pure_bind, invoke]
        exact run_callFunc E hfn g1 g2 _
    · rename_i l first captured hev
      cases hr
      rw [hev] at hf
      generalize hbf : b.eval f = bf at hf
      cases hf with
      | @func _ f' _ first' _ captured' hfr hs1 hs2 i1 i2 =>
      cases hfr with
      | same hne => exact absurd rfl (hne l)
      | @yield _ k hk =>
        refine ⟨k, first' ++ c.args.map b.eval, hk, ?_, ARel.append ⟨hs1, i1⟩ hargsrel⟩
        simp only [execOp, ho, resolve, hcal, hbf, Deferred.ofValue, pure_bind, invoke]
    · cases hr
  · rename_i recv name hcal
    have hfok : VRel ν (a.eval recv) (b.eval recv) := hok recv (by rw [ho]; simp [Op.operands, Call.operands, hcal])
    have hf := hfok
    have hargsrel := args_rel h c.args hargs
    split at hr
    case h_2 => cases hr
    rename_i f v hm
    split at hr
    case h_2 => cases hr
    rename_i fn hfn
    cases hr
    unfold amethod at hm
    split at hm
    case h_2 => cases hm
    rename_i t v0 hev
    split at hm
    case h_2 => cases hm
    rename_i i d hi hd
    split at hm
    case h_2 => cases hm
    rename_i m hfind
    split at hm
    · rename_i f0 hfunc
      split at hm
      case isFalse => cases hm
      rename_i hpp
      obtain ⟨hpath, hnp⟩ := hpp
      cases hm
      rw [hev] at hf
      generalize hbf : b.eval recv = bf at hf
      cases hf with
      | @iface _ _ v' hv' =>
      refine ⟨#[v'] ++ c.args.map b.eval, ?_, ARel.append (by have := (ARel.empty ν).push hv'; simpa using this) hargsrel⟩
      obtain ⟨g1, g2⟩ := hE f fn hfn
      have hpath' : m.path.toList = [] := by
        have : m.path = #[] := by simpa [Array.isEmpty_iff] using hpath
        simp [this]
      have hmeth : ∀ k, (method (k + 1) t v' name).run P w = .ok (f, v') w := by
        intro k
        have hpe : m.path = #[] := by simpa [Array.isEmpty_iff] using hpath
        simp only [method, Sem.run_bind, run_info E hi, Result.andThen_ok, hfind, hpath', follow, Sem.run_pure, hfunc]
        cases d <;> first
          | (simp [notPtr] at hnp; done)
          | simp [receiverAt, run_und E hd, Place.get]
      simp only [execOp, ho, resolve, hcal, hbf, pure_bind, invoke]
      have hsz : (#[Value.iface t v'] ++ c.args.map b.eval)[0]? = some (.iface t v') := by rw [Array.getElem?_append]; rfl
      simp only [hsz]
      have hext : (#[Value.iface t v'] ++ c.args.map b.eval).extract 1 (#[Value.iface t v'] ++ c.args.map b.eval).size = c.args.map b.eval := by
        apply Array.ext'
        simp [List.take_of_length_le]
      rw [hext]
      have hdep : (P.types.size + Made.depth) = (P.types.size + 99) + 1 := rfl
      simp only [callMethod, Sem.run_bind, run_program, Result.andThen_ok, hdep, hmeth]
      exact run_callFunc E hfn g1 g2 _
    · cases hm
end
end Go.Ev
/- Each operation of the evaluator is the machine's. -/
namespace Go.Ev
noncomputable section
variable {P : Program}

section
variable (E : Env P) {G : Nat} {ν : Ren} {H H' : AHeap} {w : World} {a b : Act} {o : Oper}

theorem OpPost.of2 {v : Value} {v' : Value} {w' : World} {ν' : Ren} (hr : (execOp b.eval o).run P w = .ok (.value v') w') (hv : VRel ν' v v') (h1 : HRel G ν' H' w') (h2 : Later ν H w ν' H' w') : OpPost P G ν H w b o (.val v H') :=
  ⟨_, v', w', ν', hr, .inl rfl, hv, h1, h2⟩

theorem OpPost.ofU {w' : World} (hr : (execOp b.eval o).run P w = .ok .skip w') (h1 : HRel G ν H' w') (h2 : Later ν H w ν H' w') : OpPost P G ν H w b o (.val undef H') :=
  ⟨_, undef, w', ν, hr, .inr ⟨rfl, rfl⟩, VRel.und ν, h1, h2⟩

theorem vlist_rel (h : HRel G ν H w) (ps : Array (Nat × Operand)) (hp : ∀ p ∈ ps, VRel ν (a.eval p.2) (b.eval p.2)) : partsRel ν (vlist a ps) (ps.map fun (i, x) => (i, b.eval x)).toList := by
  have : (ps.map fun (i, x) => (i, b.eval x)).toList = ps.toList.map fun p => (p.1, b.eval p.2) := by simp
  rw [this]
  exact partsRel_map h ps.toList (fun p hm => hp p (by simpa using hm))

theorem abin_ok (h : HRel G ν H w) (op : BinOp) (t : TypeId) (x y : Operand) (yt : TypeId) (ho : o.op = .binOp op t x y yt) (hok : ∀ x ∈ o.op.operands, VRel ν (a.eval x) (b.eval x)) {r : OpRes} (hr : abin E H a o op t x y = some r) : OpPost P G ν H w b o r := by
  have hx := (hok x (by rw [ho]; simp [Op.operands]))
  have hy := (hok y (by rw [ho]; simp [Op.operands]))
  unfold abin at hr
  split at hr
  · split at hr
    · rename_i bb he
      cases hr
      obtain ⟨-, h2, -, h4, -⟩ := aeqNil_ok E (w := w) hx hy he
      refine OpPost.of1 h (v' := .bool bb) ?_ (.bool bb)
      simp only [execOp, ho, Sem.run_bind, h2, Result.andThen_ok, h4, Sem.run_pure]
    · exact apure_ok h hok (by rw [ho]; rfl) hr
  · split at hr
    · rename_i bb he
      cases hr
      obtain ⟨-, h2, -, -, h4⟩ := aeqNil_ok E (w := w) hx hy he
      refine OpPost.of1 h (v' := .bool !bb) ?_ (.bool !bb)
      simp only [execOp, ho, Sem.run_bind, h2, Result.andThen_ok, h4, Sem.run_pure]
    · exact apure_ok h hok (by rw [ho]; rfl) hr
  · exact apure_ok h hok (by rw [ho]; rfl) hr

theorem opt_map_rel (h : HRel G ν H w) (lo : Option Operand) (hlo : ∀ x, lo = some x → VRel ν (a.eval x) (b.eval x)) :
    (∀ u, lo.map a.eval = some u → ∃ u', lo.map b.eval = some u' ∧ VRel ν u u') ∧ (lo.map a.eval = none → lo.map b.eval = none) := by
  cases lo with
  | none => exact ⟨fun u hu => (by cases hu), fun _ => rfl⟩
  | some x => exact ⟨fun u hu => by cases hu; exact ⟨_, rfl, (hlo x rfl)⟩, fun hn => by cases hn⟩

set_option maxHeartbeats 1000000 in
theorem aop_ok (hE : E.Good) (h : HRel G ν H w) (hG : G ≤ H.next) (hok : ∀ x ∈ o.op.operands, VRel ν (a.eval x) (b.eval x)) {r : OpRes} (hr : aop E H a o = some r) : OpPost P G ν H w b o r := by
  have ev : ∀ x, x ∈ o.op.operands → VRel ν (a.eval x) (b.eval x) := fun x hx => (hok x hx)
  unfold aop at hr
  split at hr
  · -- move
    rename_i x ho
    cases hr
    exact OpPost.of1 h (v' := b.eval x) (by simp only [execOp, ho]; rfl) (ev x (by rw [ho]; simp [Op.operands]))
  · rename_i x ho
    cases hr
    exact OpPost.of1 h (v' := b.eval x) (by simp only [execOp, ho]; rfl) (ev x (by rw [ho]; simp [Op.operands]))
  · rename_i c x y ho
    have hc := ev c (by rw [ho]; simp [Op.operands])
    split at hr
    · rename_i bb hb
      cases hr
      rw [hb] at hc
      generalize hcb : b.eval c = cb at hc
      cases hc
      refine OpPost.of1 h (v' := if bb then b.eval x else b.eval y) ?_ ?_
      · simp only [execOp, ho, hcb, asBool, Sem.run_bind, Sem.run_pure, Result.andThen_ok]
      · cases bb
        · exact ev y (by rw [ho]; simp [Op.operands])
        · exact ev x (by rw [ho]; simp [Op.operands])
    · cases hr
  · rename_i t ho
    unfold val2 at hr
    split at hr
    · rename_i p hp
      cases hr
      obtain ⟨v', w', ν', h1, h2, h3, h4⟩ := aalloc_ok E h hG hp
      exact OpPost.of2 (v' := v') (by simp only [execOp, ho, Sem.run_bind, h1, Result.andThen_ok, Sem.run_pure]) h2 h3 h4
    · cases hr
  · rename_i t x ho
    cases hr
    obtain ⟨v', w', ν', h1, h2, h3, h4⟩ := abox_ok (P := P) h hG (t := t) (ev x (by rw [ho]; simp [Op.operands]))
    exact OpPost.of2 (v' := v') (by simp only [execOp, ho, Sem.run_bind, h1, Result.andThen_ok, Sem.run_pure]) h2 h3 h4
  · rename_i t ps ho
    unfold val1 at hr
    split at hr
    · rename_i v hv
      cases hr
      have hps := vlist_rel h ps (fun p hp => hok p.2 (by rw [ho]; simp only [Op.operands]; simp; exact ⟨p.1, by simpa using hp⟩))
      obtain ⟨v', h1, h2⟩ := abuild_ok E (w := w) hps hv
      exact OpPost.of1 h (v' := v') (by simp only [execOp, ho, Sem.run_bind, h1, Result.andThen_ok, Sem.run_pure]) h2
    · cases hr
  · rename_i t n ps ho
    unfold val2 at hr
    split at hr
    · rename_i p hv
      cases hr
      have hps := vlist_rel h ps (fun p hp => hok p.2 (by rw [ho]; simp only [Op.operands]; simp; exact ⟨p.1, by simpa using hp⟩))
      obtain ⟨v', w', ν', h1, h2, h3, h4⟩ := abuildSlice_ok E h hG hps hv
      exact OpPost.of2 (v' := v') (by simp only [execOp, ho, Sem.run_bind, h1, Result.andThen_ok, Sem.run_pure]) h2 h3 h4
    · cases hr
  · rename_i t x ho
    unfold val1 at hr
    split at hr
    · rename_i v hv
      cases hr
      obtain ⟨v', h1, h2⟩ := aload_ok E h (ev x (by rw [ho]; simp [Op.operands])) hv
      exact OpPost.of1 h (v' := v') (by simp only [execOp, ho, Sem.run_bind, h1, Result.andThen_ok, Sem.run_pure]) h2
    · cases hr
  · rename_i t x y ho
    unfold valU at hr
    split at hr
    · rename_i H1 hv
      cases hr
      obtain ⟨w', h1, h2, h3⟩ := astore_ok E h (ev x (by rw [ho]; simp [Op.operands])) (ev y (by rw [ho]; simp [Op.operands])) hv
      exact OpPost.ofU (by simp only [execOp, ho, Sem.run_bind, h1, Result.andThen_ok, Sem.run_pure]) h2 h3
    · cases hr
  · rename_i x ho
    have hx := ev x (by rw [ho]; simp [Op.operands])
    split at hr
    · rename_i p hp
      cases hr
      rw [hp] at hx
      generalize hb : b.eval x = bx at hx
      have hx2 := hx
      cases hx with
      | ptr hl => exact OpPost.of1 h (by simp only [execOp, ho, hb]; rfl) hx2
    · rename_i f q s hp
      cases hr
      rw [hp] at hx
      generalize hb : b.eval x = bx at hx
      have hx2 := hx
      cases hx with
      | func hf ha hb' ia ib =>
        cases hf with
        | same hn => exact OpPost.of1 h (by simp only [execOp, ho, hb]; rfl) hx2
    · rename_i f q s hp
      cases hr
      rw [hp] at hx
      generalize hb : b.eval x = bx at hx
      have hx2 := hx
      cases hx with
      | func hf ha hb' ia ib =>
        cases hf with
        | same hn => exact absurd rfl (hn f)
        | yield hk => exact OpPost.of1 h (by simp only [execOp, ho, hb]; rfl) hx2
    · cases hr
  · rename_i op t x y yt ho
    exact abin_ok E h op t x y yt ho hok hr
  · rename_i src dst x ho
    split at hr
    · unfold val1 at hr
      split at hr
      · rename_i v hv
        cases hr
        obtain ⟨v', h1, h2⟩ := abytes_ok E h (ev x (by rw [ho]; simp [Op.operands])) hv
        exact OpPost.of1 h (v' := v') (by simp only [execOp, ho, Sem.run_bind, h1, Result.andThen_ok, Sem.run_pure]) h2
      · cases hr
    · exact apure_ok h hok (by rw [ho]; rfl) hr
  · rename_i t x ho
    unfold val1 at hr
    split at hr
    · rename_i v hv
      cases hr
      obtain ⟨v', h1, h2⟩ := amakeIface_ok E (w := w) (ev x (by rw [ho]; simp [Op.operands])) hv
      exact OpPost.of1 h (v' := v') (by simp only [execOp, ho, Sem.run_bind, h1, Result.andThen_ok, Sem.run_pure]) h2
    · cases hr
  · rename_i f first cap ho
    cases hr
    have h1 := args_rel h first (fun x hx => hok x (by rw [ho]; simp [Op.operands, hx]))
    have h2 := args_rel h cap (fun x hx => hok x (by rw [ho]; simp [Op.operands, hx]))
    exact OpPost.of1 h (v' := .func (.func f) (first.map b.eval) (cap.map b.eval)) (by simp only [execOp, ho, Instr.makeFunc, Sem.run_bind, Sem.run_pure, Result.andThen_ok]) (.func (.same (by simp)) h1.1 h2.1 h1.2 h2.2)
  · rename_i t ho
    cases hr
    obtain ⟨v', w', ν', h1, h2, h3, h4⟩ := amakeMap_ok (P := P) h hG t
    exact OpPost.of2 (v' := v') (by simp only [execOp, ho, Option.map_none, Sem.run_bind, h1, Result.andThen_ok, Sem.run_pure]) h2 h3 h4
  · rename_i t l c ho
    unfold val2 at hr
    split at hr
    · rename_i p hp
      cases hr
      obtain ⟨v', w', ν', h1, h2, h3, h4⟩ := amakeSlice_ok E h hG (ev l (by rw [ho]; simp [Op.operands])) (ev c (by rw [ho]; simp [Op.operands])) hp
      exact OpPost.of2 (v' := v') (by simp only [execOp, ho, Sem.run_bind, h1, Result.andThen_ok, Sem.run_pure]) h2 h3 h4
    · cases hr
  · rename_i t x lo hi ho
    split at hr
    · exact apure_ok h hok (by rw [ho]; rfl) hr
    · unfold val1 at hr
      split at hr
      · rename_i v hv
        cases hr
        obtain ⟨p1, p2⟩ := opt_map_rel h lo (fun y hy => hok y (by rw [ho]; simp [Op.operands, hy]))
        obtain ⟨q1, q2⟩ := opt_map_rel h hi (fun y hy => hok y (by rw [ho]; simp [Op.operands, hy]))
        obtain ⟨v', h1, h2⟩ := aslice_ok E h (ev x (by rw [ho]; simp [Op.operands])) p1 p2 q1 q2 hv
        exact OpPost.of1 h (v' := v') (by simp only [execOp, ho, Option.map_none, Sem.run_bind, h1, Result.andThen_ok, Sem.run_pure]) h2
      · cases hr
  · rename_i t x f ho
    unfold val1 at hr
    split at hr
    · rename_i v hv
      cases hr
      obtain ⟨v', h1, h2⟩ := afieldAddr_ok E (w := w) (ev x (by rw [ho]; simp [Op.operands])) hv
      exact OpPost.of1 h (v' := v') (by simp only [execOp, ho, Sem.run_bind, h1, Result.andThen_ok, Sem.run_pure]) h2
    · cases hr
  · rename_i t x f ho
    unfold val1 at hr
    split at hr
    · rename_i v hv
      cases hr
      obtain ⟨v', h1, h2⟩ := afield_ok E (w := w) (ev x (by rw [ho]; simp [Op.operands])) hv
      exact OpPost.of1 h (v' := v') (by simp only [execOp, ho, Sem.run_bind, h1, Result.andThen_ok, Sem.run_pure]) h2
    · cases hr
  · rename_i t x i ho
    unfold val1 at hr
    split at hr
    · rename_i v hv
      cases hr
      obtain ⟨v', h1, h2⟩ := aindexAddr_ok E (w := w) (ev x (by rw [ho]; simp [Op.operands])) (ev i (by rw [ho]; simp [Op.operands])) hv
      exact OpPost.of1 h (v' := v') (by simp only [execOp, ho, Sem.run_bind, h1, Result.andThen_ok, Sem.run_pure]) h2
    · cases hr
  · rename_i t x i ho
    split at hr
    · exact apure_ok h hok (by rw [ho]; rfl) hr
    · unfold val1 at hr
      split at hr
      · rename_i v hv
        cases hr
        obtain ⟨v', h1, h2⟩ := aindex_ok E (w := w) (ev x (by rw [ho]; simp [Op.operands])) (ev i (by rw [ho]; simp [Op.operands])) hv
        exact OpPost.of1 h (v' := v') (by simp only [execOp, ho, Sem.run_bind, h1, Result.andThen_ok, Sem.run_pure]) h2
      · cases hr
  · rename_i t x i ok ho
    unfold val1 at hr
    split at hr
    · rename_i v hv
      cases hr
      obtain ⟨v', h1, h2⟩ := alookup_ok E h (ev x (by rw [ho]; simp [Op.operands])) (ev i (by rw [ho]; simp [Op.operands])) hv
      exact OpPost.of1 h (v' := v') (by simp only [execOp, ho, Sem.run_bind, h1, Result.andThen_ok, Sem.run_pure]) h2
    · cases hr
  · rename_i t m k x ho
    unfold valU at hr
    split at hr
    · rename_i H1 hv
      cases hr
      obtain ⟨w', h1, h2, h3⟩ := amapUpdate_ok E h (ev m (by rw [ho]; simp [Op.operands])) (ev k (by rw [ho]; simp [Op.operands])) (ev x (by rw [ho]; simp [Op.operands])) hv
      exact OpPost.ofU (by simp only [execOp, ho, Sem.run_bind, h1, Result.andThen_ok, Sem.run_pure]) h2 h3
    · cases hr
  · rename_i t m k x ho
    unfold valU at hr
    split at hr
    · rename_i H1 hv
      cases hr
      obtain ⟨w', h1, h2, h3⟩ := amapUpdate_ok E h (ev m (by rw [ho]; simp [Op.operands])) (ev k (by rw [ho]; simp [Op.operands])) (ev x (by rw [ho]; simp [Op.operands])) hv
      exact OpPost.ofU (by simp only [execOp, ho, Sem.run_bind, h1, Result.andThen_ok, Sem.run_pure]) h2 h3
    · cases hr
  · rename_i t x ho
    unfold val2 at hr
    split at hr
    · rename_i p hp
      cases hr
      obtain ⟨v', w', ν', h1, h2, h3, h4⟩ := arange_ok E h hG (ev x (by rw [ho]; simp [Op.operands])) hp
      exact OpPost.of2 (v' := v') (by simp only [execOp, ho, Sem.run_bind, h1, Result.andThen_ok, Sem.run_pure]) h2 h3 h4
    · cases hr
  · rename_i it s ho
    unfold val2 at hr
    split at hr
    · rename_i p hp
      cases hr
      obtain ⟨v', w', h1, h2, h3, h4⟩ := anext_ok (P := P) (ty := o.type) h (ev it (by rw [ho]; simp [Op.operands])) hp
      exact OpPost.of2 (v' := v') (by simp only [execOp, ho, Sem.run_bind, h1, Result.andThen_ok, Sem.run_pure]) h2 h3 h4
    · cases hr
  · rename_i it ho
    unfold val1 at hr
    split at hr
    · rename_i v hv
      cases hr
      obtain ⟨v', h1, h2⟩ := aentry_ok (P := P) h (ev it (by rw [ho]; simp [Op.operands])) hv
      exact OpPost.of1 h (v' := v') (by simp only [execOp, ho, Sem.run_bind, h1, Result.andThen_ok, Sem.run_pure]) h2
    · cases hr
  · rename_i t i ho
    unfold val1 at hr
    split at hr
    · rename_i v hv
      cases hr
      obtain ⟨v', h1, h2⟩ := aextract_ok (P := P) (w := w) (ev t (by rw [ho]; simp [Op.operands])) hv
      exact OpPost.of1 h (v' := v') (by simp only [execOp, ho, Sem.run_bind, h1, Result.andThen_ok, Sem.run_pure]) h2
    · cases hr
  · rename_i c ho
    exact acall_ok E hE h hG c ho hok hr
  · rename_i op t x ho
    exact apure_ok h hok (by rw [ho]; rfl) hr
  · cases hr
end
end
end Go.Ev
/- Operations in a row, calls among them. -/
namespace Go.Ev
noncomputable section
variable {P : Program}

/-- What the evaluator asks of itself: a loop, a call, a round of a range over a function. -/
structure Recs where
  loop : Option Nat → Code → Act → AHeap → Option (Exit × Act × AHeap)
  call : FuncId → Array Value → AHeap → Option (Value × AHeap)
  round : Nat → Array Value → AHeap → Option (Value × AHeap)

def fence (b : Option Nat) : Fence := { Fence.wide with round := b }

theorem fence_none : fence none = Fence.wide := rfl

/-- What a call leaves. -/
def RetPost (G : Nat) (ν : Ren) (H : AHeap) (w : World) (v : Value) (H' : AHeap) (e : Ending) (w' : World) : Prop :=
  ∃ ν' v', e = .returned v' ∧ VRel ν' v v' ∧ HRel G ν' H' w' ∧ Later ν H w ν' H' w'

/-- What a piece of code leaves. -/
def CodePost (G : Nat) (ν : Ren) (H : AHeap) (w : World) (e : Exit) (a : Act) (H' : AHeap) (e' : Exit) (b : Act) (w' : World) : Prop :=
  e' = e ∧ ∃ ν', HRel G ν' H' w' ∧ ActRel ν' a b ∧ Later ν H w ν' H' w'

/-- The rounds of a loop, from the head of one. -/
def LoopIn (F : Fence) (n : Nat) (P : Program) (c : Code) (Q : Exit → Act → World → Prop) (a : Act) (w : World) : Prop :=
  ∀ (b : Frame) (k : List Item) (cs : List Frame), b.roundOf = F.round → F.fn b.fn → F.room (cs.length + 1 + n) →
    ∃ e a' w', Q e a' w' ∧ ArrivesIn (Machine.fenced P F) P (lone (b.atR a (.code c :: .inLoop c :: k)) cs w) b k cs e a' w'

theorem LoopIn.wpIn {F : Fence} {n : Nat} {c : Code} {Q : Exit → Act → World → Prop} {a : Act} {w : World} (h : LoopIn F n P c Q a w) : (Code.loop c).wpIn F n P Q a w := by
  intro b k cs hro hb hr
  obtain ⟨e, a', w', hq, harr⟩ := h b k cs hro hb hr
  exact ⟨e, a', w', hq, .of_steps (.one (fenced_calm hb hr rfl) stepR_loop) harr⟩

theorem LoopIn.round {F : Fence} {n : Nat} {c : Code} {Q : Exit → Act → World → Prop} {a : Act} {w : World} (h : c.wpIn F n P (Exit.then (LoopIn F n P c Q) Q) a w) : LoopIn F n P c Q a w := by
  intro b k cs hro hb hr
  obtain ⟨e, a₁, w₁, hq, harr⟩ := h b (.inLoop c :: k) cs hro hb hr
  cases e with
  | normal =>
    obtain ⟨e₂, a₂, w₂, hq₂, harr₂⟩ := hq b k cs hro hb hr
    exact ⟨e₂, a₂, w₂, hq₂, .of_steps (StepsIn.trans harr (.one (fenced_calm hb hr rfl) stepR_inLoop)) harr₂⟩
  | exit id => exact ⟨_, a₁, w₁, hq, .pass (x := .inLoop c) rfl (fun _ _ => .inl (by simp)) harr⟩
  | goto l => exact ⟨_, a₁, w₁, hq, .pass (x := .inLoop c) rfl (fun _ _ => .inl (by simp)) harr⟩
  | ret => exact ⟨_, a₁, w₁, hq, .pass (x := .inLoop c) rfl (fun _ _ => .inl (by simp)) harr⟩
  | panic ch => exact ⟨_, a₁, w₁, hq, .pass (x := .inLoop c) rfl (fun _ _ => .inl (by simp)) harr⟩
  | outgrown => exact ⟨_, a₁, w₁, hq, .pass (x := .inLoop c) rfl (fun _ _ => .inl (by simp)) harr⟩

/-- The block of the round that an activation is. -/
def RdRel (ν : Ren) (rd b : Option Nat) : Prop := (rd = none ∧ b = none) ∨ ∃ n l, rd = some n ∧ ν n = some l ∧ b = some l.block

theorem RdRel.ext {ν ν' : Ren} (he : ExtTo ν ν') {rd b : Option Nat} (h : RdRel ν rd b) : RdRel ν' rd b := by
  rcases h with h | ⟨n, l, h1, h2, h3⟩
  · exact .inl h
  · exact .inr ⟨n, l, h1, he _ _ h2, h3⟩

/-- The evaluator's answers to itself are right. -/
structure RecsOk (P : Program) (G : Nat) (R : Recs) : Prop where
  call : ∀ f args H v H', R.call f args H = some (v, H') → ∀ ν w args', HRel G ν H w → G ≤ H.next → ARel ν args args' → CallsIn Fence.wide 0 P f args' w (RetPost G ν H w v H')
  round : ∀ l args H v H', R.round l args H = some (v, H') → ∀ ν w k args', HRel G ν H w → G ≤ H.next → ν l = some k → ARel ν args args' →
    ∃ f tmps asg body, (Instr.yield k.block args').run P w = .ok (.round k.block f tmps asg body) w ∧ RoundIn Fence.wide 0 P k.block f tmps asg body w (RetPost G ν H w v H')
  loop : ∀ rd c a H e a' H', R.loop rd c a H = some (e, a', H') → ∀ ν w act b, HRel G ν H w → G ≤ H.next → ActRel ν a act → RdRel ν rd b → LoopIn (fence b) 0 P c (CodePost G ν H w e a' H') act w

def evOp (E : Env P) (G : Nat) (R : Recs) (H : AHeap) (a : Act) (o : Oper) : Option (Value × AHeap) :=
  if o.op.operands.all (okOpd G) = true then
    match aop E H a o with
    | some (.val v H') => some (v, H')
    | some (.call f args) => R.call f args H
    | some (.round l args) => R.round l args H
    | none => none
  else none

theorem aop_defer (E : Env P) (H : AHeap) (a : Act) (o : Oper) (c : Call) (ho : o.op = .defer c) : aop E H a o = none := by
  unfold aop; rw [ho]

theorem evOp_ok (E : Env P) (hE : E.Good) {G : Nat} {R : Recs} (hR : RecsOk P G R) {ν : Ren} {H H' : AHeap} {w : World} {a b : Act} {o : Oper} {v : Value} (h : HRel G ν H w) (hG : G ≤ H.next) (hab : ∀ x ∈ o.op.operands, okOpd G x = true → VRel ν (a.eval x) (b.eval x))
    (hv : evOp E G R H a o = some (v, H')) (ro : Option Nat) {K : Act → World → Prop} {Q : Exit → Act → World → Prop}
    (hK : ∀ ν' v' w', VRel ν' v v' → HRel G ν' H' w' → Later ν H w ν' H' w' → K (b.put o.dst v') w') : o.wpIn (fence ro) 0 P b w K Q := by
  unfold evOp at hv
  split at hv
  case isFalse => cases hv
  rename_i hok0
  have hok : ∀ x ∈ o.op.operands, VRel ν (a.eval x) (b.eval x) := fun x hx => hab x hx (by simpa using Array.all_eq_true_iff_forall_mem.1 hok0 x hx)
  have hnd : ∀ c, o.op ≠ .defer c := by
    intro c hc
    rw [aop_defer E H a o c hc] at hv; cases hv
  refine ⟨fun _ _ => trivial, ?_⟩
  rw [Oper.semAt_eq _ _ _ hnd]
  split at hv
  · rename_i v0 H0 hop
    cases hv
    obtain ⟨r, v', w', ν', h1, h2, h3, h4, h5⟩ := aop_ok E hE h hG hok hop
    rw [h1]
    rcases h2 with rfl | ⟨rfl, rfl⟩
    · exact hK ν' v' w' h3 h4 h5
    · exact hK ν' undef w' h3 h4 h5
  · rename_i f args hop
    obtain ⟨args', h1, h2⟩ := aop_ok E hE h hG hok hop
    rw [h1]
    refine ⟨(fun hd => by cases hd), ?_⟩
    have := hR.call f args H v H' hv ν w args' h hG h2
    exact CallsIn.mono (F := fence ro) this (fun e w'' he => by
      obtain ⟨ν', v', rfl, q1, q2, q3⟩ := he
      exact hK ν' v' w'' q1 q2 q3)
  · rename_i l args hop
    obtain ⟨k, args', hk, h1, h2⟩ := aop_ok E hE h hG hok hop
    rw [h1]
    obtain ⟨f, tmps, asg, body, g1, g2⟩ := hR.round l args H v H' hv ν w k args' h hG hk h2
    rw [g1]
    refine ⟨(fun hd => by cases hd), ?_⟩
    exact RoundIn.mono (F := fence ro) g2 (fun e w'' he => by
      obtain ⟨ν', v', rfl, q1, q2, q3⟩ := he
      exact hK ν' v' w'' q1 q2 q3)
  · cases hv

/-- Is an operation's guard met? The same in both. -/
theorem yielded_rel {ν : Ren} {a b : Act} (h : ARel ν a.tmps b.tmps) (ops : Array Oper) : yielded ops b.tmps = yielded ops a.tmps := by
  funext j
  unfold yielded
  cases hd : (ops[j]?).bind (·.dst) with
  | none => rfl
  | some t =>
    simp only [Option.bind_some]
    cases ht : a.tmps[t]? with
    | none => rw [h.none? ht]
    | some v =>
      obtain ⟨v', h1, h2⟩ := h.get? ht
      rw [h1]
      cases h2 <;> rfl

def evOps (E : Env P) (G : Nat) (R : Recs) (ops : Array Oper) : List Oper → Act → AHeap → Option (Act × AHeap)
  | [], a, H => some (a, H)
  | o :: os, a, H =>
    if Region.wanted o (yielded ops a.tmps) = true then
      match evOp E G R H a o with
      | some (v, H') => evOps E G R ops os (a.put o.dst v) H'
      | none => none
    else evOps E G R ops os (a.put o.dst undef) H

theorem evOps_ok (E : Env P) (hE : E.Good) {G : Nat} {R : Recs} (hR : RecsOk P G R) (ops : Array Oper) (ro : Option Nat) (Q : Exit → Act → World → Prop) {a' : Act} {H' : AHeap} :
    ∀ (l : List Oper) (k : Nat), ops.toList.drop k = l → ∀ (a : Act) (H : AHeap), evOps E G R ops l a H = some (a', H') → ∀ (ν : Ren) (w : World) (b : Act), HRel G ν H w → G ≤ H.next → ActRel ν a b →
      (∀ ν' b' w', HRel G ν' H' w' → ActRel ν' a' b' → Later ν H w ν' H' w' → Q .normal b' w') → wpOpsIn (fence ro) 0 P ops Q (List.range' k l.length) b w := by
  intro l
  induction l with
  | nil =>
    intro k _ a H hv ν w b h hG hab hQ
    simp only [evOps, Option.some.injEq, Prod.mk.injEq] at hv
    obtain ⟨rfl, rfl⟩ := hv
    exact hQ ν b w h hab (Later.refl _ _ _)
  | cons o os ih =>
    intro k hk a H hv ν w b h hG hab hQ
    have hget : ops[k]? = some o := by
      have h1 : (ops.toList.drop k)[0]? = some o := by rw [hk]; rfl
      rw [List.getElem?_drop] at h1
      simpa using h1
    have hnext : ops.toList.drop (k + 1) = os := by
      rw [← List.drop_drop, hk]; rfl
    simp only [List.length_cons, List.range'_succ]
    rw [wpOpsIn_cons]
    unfold wpOpIn
    simp only [hget]
    have hy := yielded_rel hab.tmps ops
    simp only [evOps] at hv
    rw [hy]
    split at hv
    · rename_i hw
      rw [if_pos hw]
      split at hv
      · rename_i v H1 hop
        exact evOp_ok E hE hR h hG (fun x _ hx => eval_rel h hab hx) hop ro fun ν1 v1 w1 q1 q2 q3 =>
          ih (k + 1) hnext _ _ hv ν1 w1 _ q2 (Nat.le_trans hG q3.next) ((hab.ext (h.extTo q3)).put o.dst q1) fun ν' b' w' p1 p2 p3 => hQ ν' b' w' p1 p2 (q3.trans p3)
      · cases hv
    · rename_i hw
      rw [if_neg hw]
      exact ⟨fun _ _ => trivial, ih (k + 1) hnext _ _ hv ν w _ h hG (hab.put o.dst (VRel.und ν)) hQ⟩
end
end Go.Ev
/- The evaluator of code: branches, loops, calls, ranges over functions. -/
namespace Go.Ev
noncomputable section
variable {P : Program}

abbrev Draw := Array Oper → Act → AHeap → Option (Act × AHeap)

/-- A region that draws its order, evaluated in one order, is right for all. -/
def DrawOk (P : Program) (G : Nat) (dr : Draw) : Prop :=
  ∀ (id : Nat) (ops : Array Oper) (a : Act) (H : AHeap) (a' : Act) (H' : AHeap), dr ops a H = some (a', H') → ∀ (ν : Ren) (w : World) (b : Act) (ro : Option Nat) (Q : Exit → Act → World → Prop), HRel G ν H w → G ≤ H.next → ActRel ν a b →
    (∀ ν' b' w', HRel G ν' H' w' → ActRel ν' a' b' → Later ν H w ν' H' w' → Q .normal b' w') → (Code.region id ops true).wpIn (fence ro) 0 P Q b w

/-- The record of a range over a function, laid. -/
def enterH (rd : Option Nat) (H : AHeap) : Option (AHeap × List Deferred) :=
  match rd with
  | none => some (H.add (.deferred false), [{ target := .collected H.next, args := #[] }])
  | some r => match H.get r with
    | some (.loop _) => some (H, [])
    | _ => none

def evRange (E : Env P) (G : Nat) (R : Recs) (rd : Option Nat) (f : Operand) (ps : Array Tmp) (asg body : Code) (a : Act) (H : AHeap) : Option (Exit × Act × AHeap) :=
  if okOpd G f = true then
    match a.eval f, enterH rd H with
    | .func (.func g) first captured, some (H1, marks) =>
      match E.func g, R.call g (first ++ #[.func (.yield H1.next) #[] #[]] ++ captured) (H1.add (.loop { state := .ready, pending := none, fn := 0, tmps := a.tmps, params := ps, assign := asg, body := body, defers := 0 })) with
      | some _, some (_, H3) =>
        match H3.get H1.next with
        | some (.loop r) =>
          if r.state = .busy then none
          else
            match r.pending with
            | none => some (.normal, { a with defers := marks ++ a.defers }, H3.put H1.next (some (.loop { r with state := .exhausted })))
            | some .ret => some (.ret, { a with defers := marks ++ a.defers }, H3.put H1.next (some (.loop { r with state := .exhausted })))
            | some (.exit id) => some (.exit id, { a with defers := marks ++ a.defers }, H3.put H1.next (some (.loop { r with state := .exhausted })))
            | _ => none
        | _ => none
      | _, _ => none
    | _, _ => none
  else none

def evC (E : Env P) (G : Nat) (R : Recs) (dr : Draw) (rd : Option Nat) : Code → Act → AHeap → Option (Exit × Act × AHeap)
  | .skip, a, H => some (.normal, a, H)
  | .label _, a, H => some (.normal, a, H)
  | .region _ ops d, a, H =>
    match (match d with | true => dr ops a H | false => evOps E G R ops ops.toList a H) with
    | some (a', H') => some (.normal, a', H')
    | none => none
  | .seq x y, a, H =>
    match evC E G R dr rd x a H with
    | some (.normal, a', H') => evC E G R dr rd y a' H'
    | r => r
  | .cond c x y, a, H =>
    if okOpd G c = true then
      match a.eval c with
      | .bool true => evC E G R dr rd x a H
      | .bool false => evC E G R dr rd y a H
      | _ => none
    else none
  | .block id c, a, H =>
    match evC E G R dr rd c a H with
    | some (.exit id', a', H') => if id' = id then some (.normal, a', H') else some (.exit id', a', H')
    | r => r
  | .loop c, a, H => R.loop rd c a H
  | .exit id, a, H => some (.exit id, a, H)
  | .ret, a, H => some (.ret, a, H)
  | .rangeFunc f ps asg body, a, H => evRange E G R rd f ps asg body a H
  | _, _, _ => none

/-! ### A range over a function -/

theorem getLoop_run {w : World} {b : Nat} {r : Loop} (h : w.heap[b]? = some (.loop r)) : (Instr.getLoop b).run P w = .ok r w := by
  simp [Instr.getLoop, getObj, Sem.run, h]

theorem setLoop_run {w : World} {b : Nat} {r : Loop} (h : w.heap[b]? = some (.loop r)) (o : Obj) : (setObj b o).run P w = .ok () { w with heap := w.heap.setIfInBounds b o } := by
  simp [setObj, Sem.run, h]

theorem DRel.append {ν : Ren} : ∀ {x x' y y' : List Deferred}, DRel ν x x' → DRel ν y y' → DRel ν (x ++ y) (x' ++ y')
  | [], [], _, _, _, k => k
  | _ :: _, _ :: _, _, _, ⟨h1, h2⟩, k => ⟨h1, h2.append k⟩

theorem enter_ok {G : Nat} {ν : Ren} {H H1 : AHeap} {w : World} (h : HRel G ν H w) (hG : G ≤ H.next) {rd ro : Option Nat} (hrd : RdRel ν rd ro) {marks : List Deferred} (he : enterH rd H = some (H1, marks)) (fn0 : FuncId) (tmps : Array Value) (ps : Array Tmp) (asg body : Code) :
    ∃ ν1 w1 marks' D, (Instr.enterLoop fn0 tmps ps asg body ro).run P w = .ok (w1.heap.size, marks') { w1 with heap := w1.heap.push (.loop { state := .ready, pending := none, fn := fn0, tmps := tmps, params := ps, assign := asg, body := body, defers := D }) } ∧
      HRel G ν1 H1 w1 ∧ Later ν H w ν1 H1 w1 ∧ DRel ν1 marks marks' := by
  unfold enterH at he
  rcases hrd with ⟨rfl, rfl⟩ | ⟨n, l, rfl, hl, rfl⟩
  · simp only [Option.some.injEq, Prod.mk.injEq] at he
    obtain ⟨rfl, rfl⟩ := he
    obtain ⟨g1, g2, g3⟩ := new_obj h hG (.deferred false) (.deferred (some [])) (fun ν' _ => ⟨rfl, by simp⟩)
    refine ⟨_, { w with heap := w.heap.push (.deferred (some [])) }, [{ target := .collected w.heap.size, args := #[] }], w.heap.size, ?_, g1, g2, ⟨_, _, rfl, g3, rfl⟩, trivial⟩
    simp only [Instr.enterLoop, Sem.run_bind, run_newObj, Result.andThen_ok, Sem.run_pure]
  · simp only at he
    split at he
    · rename_i r hg
      simp only [Option.some.injEq, Prod.mk.injEq] at he
      obtain ⟨rfl, rfl⟩ := he
      obtain ⟨-, r', q1, -⟩ := h.notCells hg hl
      refine ⟨ν, w, [], r'.defers, ?_, h, Later.refl _ _ _, trivial⟩
      simp only [Instr.enterLoop, Sem.run_bind, getLoop_run q1, run_newObj, Result.andThen_ok, Sem.run_pure]
    · cases he

theorem evRange_ok (E : Env P) (hE : E.Good) {G : Nat} {R : Recs} (hR : RecsOk P G R) {rd ro : Option Nat} {f : Operand} {ps : Array Tmp} {asg body : Code} {a a' : Act} {H H' : AHeap} {e : Exit} (hv : evRange E G R rd f ps asg body a H = some (e, a', H'))
    {ν : Ren} {w : World} {b : Act} (h : HRel G ν H w) (hG : G ≤ H.next) (hab : ActRel ν a b) (hrd : RdRel ν rd ro) : (Code.rangeFunc f ps asg body).wpIn (fence ro) 0 P (CodePost G ν H w e a' H') b w := by
  unfold evRange at hv
  split at hv
  case isFalse => cases hv
  rename_i hok
  split at hv
  case h_2 => cases hv
  rename_i g first captured H1 marks hev hent
  split at hv
  case h_2 => cases hv
  rename_i fn v0 H3 hfn hcall
  split at hv
  case h_2 => cases hv
  rename_i r hget
  split at hv
  case isTrue => cases hv
  rename_i hst
  have hf := eval_rel h hab hok
  rw [hev] at hf
  generalize hbf : b.eval f = bf at hf
  cases hf with
  | @func _ f' _ first' _ captured' hfr hs1 hs2 i1 i2 =>
  cases hfr with
  | same hne =>
  refine wpIn_rangeFunc fun fn0 _ => ?_
  obtain ⟨ν1, w1, marks', D, he1, hr1, hl1, hm1⟩ := enter_ok (P := P) h hG hrd hent fn0 b.tmps ps asg body
  have hG1 : G ≤ H1.next := Nat.le_trans hG hl1.next
  have hab1 := hab.ext (h.extTo hl1)
  obtain ⟨k1, k2, k3⟩ := new_obj hr1 hG1 (.loop { state := .ready, pending := none, fn := 0, tmps := a.tmps, params := ps, assign := asg, body := body, defers := 0 })
    (.loop { state := .ready, pending := none, fn := fn0, tmps := b.tmps, params := ps, assign := asg, body := body, defers := D })
    (fun ν' hx => ⟨rfl, { state := .ready, pending := none, fn := fn0, tmps := b.tmps, params := ps, assign := asg, body := body, defers := D }, by simp, rfl, rfl, rfl, rfl, rfl, hab1.tmps.ext hx⟩)
  have hext2 := hr1.extTo k2
  have hargs : ARel (ν1.add H1.next ⟨w1.heap.size, 0, none, 0⟩) (first ++ #[.func (.yield H1.next) #[] #[]] ++ captured) (first' ++ #[.func (.yield w1.heap.size) #[] #[]] ++ captured') := by
    have c1 : ARel ν first first' := ⟨hs1, i1⟩
    have c2 : ARel ν captured captured' := ⟨hs2, i2⟩
    have c3 : VRel (ν1.add H1.next ⟨w1.heap.size, 0, none, 0⟩) (.func (.yield H1.next) #[] #[]) (.func (.yield w1.heap.size) #[] #[]) :=
      .func (.yield k3) rfl rfl (fun i hi => absurd hi (Nat.not_lt_zero i)) (fun i hi => absurd hi (Nat.not_lt_zero i))
    have c4 := (ARel.empty (ν1.add H1.next ⟨w1.heap.size, 0, none, 0⟩)).push c3
    exact ((((c1.ext (h.extTo hl1)).ext hext2).append c4).append ((c2.ext (h.extTo hl1)).ext hext2))
  have hc := hR.call g _ _ _ _ hcall _ _ _ k1 (Nat.le_trans hG1 k2.next) hargs
  obtain ⟨gg1, gg2⟩ := hE g fn hfn
  refine ⟨w1.heap.size, marks', _, { target := .fn (.func g) captured', args := first' ++ #[.func (.yield w1.heap.size) #[] #[]] },
    { w1 with heap := w1.heap.push (.loop { state := .ready, pending := none, fn := fn0, tmps := b.tmps, params := ps, assign := asg, body := body, defers := D }) }, g, first' ++ #[.func (.yield w1.heap.size) #[] #[]] ++ captured',
    { w1 with heap := w1.heap.push (.loop { state := .ready, pending := none, fn := fn0, tmps := b.tmps, params := ps, assign := asg, body := body, defers := D }) }, he1, ?_, (fun _ _ => trivial), ?_, (fun hd => by cases hd), ?_⟩
  · have hmap : (#[Operand.const (.func (.yield w1.heap.size) #[] #[])]).map b.eval = #[.func (.yield w1.heap.size) #[] #[]] := by simp [Act.eval]
    simp only [resolve, hbf, Deferred.ofValue, Sem.run_pure, hmap]
  · simp only [invoke]
    exact run_callFunc E hfn gg1 gg2 _
  · refine CallsIn.mono (F := fence ro) hc (fun e1 w3 hp => ?_)
    obtain ⟨ν3, v3, rfl, q1, q2, q3⟩ := hp
    have hl3 : ν3 H1.next = some ⟨w1.heap.size, 0, none, 0⟩ := (k1.extTo q3) _ _ k3
    obtain ⟨-, r', p1, p2, p3, p4, p5, p6, p7⟩ := q2.notCells hget hl3
    have hfin := q2.setObj (o' := .loop { r with state := .exhausted }) (obj' := .loop { r' with state := .exhausted }) hget hl3 rfl rfl
      ⟨rfl, { r' with state := .exhausted }, by simp [q2.block _ _ hl3], rfl, p3, p4, p5, p6, p7⟩
    have hend : (Instr.endLoop w1.heap.size).run P w3 = .ok r.pending { w3 with heap := w3.heap.setIfInBounds w1.heap.size (.loop { r' with state := .exhausted }) } := by
      have hnb : (r'.state == .busy) = false := by rw [p2]; simpa using hst
      simp only [Instr.endLoop, Sem.run_bind, getLoop_run p1, Result.andThen_ok, hnb, Bool.false_eq_true, if_false, setLoop_run p1, Sem.run_pure, p3]
    have hx3 : ExtTo ν ν3 := ((h.extTo hl1).trans hext2).trans (k1.extTo q3)
    have hact : ActRel ν3 { a with defers := marks ++ a.defers } { b with defers := marks' ++ b.defers } := by
      refine ⟨(hab.tmps.ext hx3), ?_⟩
      exact (hm1.ext (hext2.trans (k1.extTo q3))).append (hab.defers.ext hx3)
    have hlat := ((hl1.trans k2).trans q3).trans hfin.2
    refine ⟨r.pending, _, hend, ?_⟩
    split at hv
    · rename_i hpend
      cases hv
      rw [hpend] at hfin hlat ⊢
      exact ⟨rfl, ν3, hfin.1, hact, hlat⟩
    · rename_i hpend
      cases hv
      rw [hpend] at hfin hlat ⊢
      exact wpIn_ret ⟨rfl, ν3, hfin.1, hact, hlat⟩
    · rename_i id hpend
      cases hv
      rw [hpend] at hfin hlat ⊢
      exact wpIn_exit ⟨rfl, ν3, hfin.1, hact, hlat⟩
    · cases hv

/-! ### Code -/

theorem evC_ok (E : Env P) (hE : E.Good) {G : Nat} {R : Recs} {dr : Draw} (hR : RecsOk P G R) (hD : DrawOk P G dr) (rd : Option Nat) : ∀ (c : Code) (a : Act) (H : AHeap) (e : Exit) (a' : Act) (H' : AHeap), evC E G R dr rd c a H = some (e, a', H') →
    ∀ (ν : Ren) (w : World) (b : Act) (ro : Option Nat), HRel G ν H w → G ≤ H.next → ActRel ν a b → RdRel ν rd ro → c.wpIn (fence ro) 0 P (CodePost G ν H w e a' H') b w := by
  intro c
  induction c with
  | skip =>
    intro a H e a' H' hv ν w b ro h hG hab hrd
    simp only [evC, Option.some.injEq, Prod.mk.injEq] at hv
    obtain ⟨rfl, rfl, rfl⟩ := hv
    exact wpIn_skip ⟨rfl, ν, h, hab, Later.refl _ _ _⟩
  | label l =>
    intro a H e a' H' hv ν w b ro h hG hab hrd
    simp only [evC, Option.some.injEq, Prod.mk.injEq] at hv
    obtain ⟨rfl, rfl, rfl⟩ := hv
    exact wpIn_label ⟨rfl, ν, h, hab, Later.refl _ _ _⟩
  | region id ops d =>
    intro a H e a' H' hv ν w b ro h hG hab hrd
    simp only [evC] at hv
    split at hv
    · rename_i a1 H1 hev
      cases hv
      cases d with
      | true => exact hD id ops a H a' H' hev ν w b ro _ h hG hab fun ν' b' w' q1 q2 q3 => ⟨rfl, ν', q1, q2, q3⟩
      | false =>
        refine wpIn_region ?_
        have := evOps_ok E hE hR ops ro (CodePost G ν H w .normal a' H') ops.toList 0 (by simp) a H hev ν w b h hG hab (fun ν' b' w' q1 q2 q3 => ⟨rfl, ν', q1, q2, q3⟩)
        rw [List.range_eq_range']
        simpa using this
    · cases hv
  | seq x y ihx ihy =>
    intro a H e a' H' hv ν w b ro h hG hab hrd
    simp only [evC] at hv
    refine wpIn_seq ?_
    cases hx : evC E G R dr rd x a H with
    | none => simp [hx] at hv
    | some p =>
      obtain ⟨e1, a1, H1⟩ := p
      have hw := ihx a H e1 a1 H1 hx ν w b ro h hG hab hrd
      refine wpIn_mono hw fun e2 b2 w2 hq => ?_
      obtain ⟨rfl, ν1, q1, q2, q3⟩ := hq
      cases e2 with
      | normal =>
        simp only [hx] at hv
        refine wpIn_mono (ihy a1 H1 e a' H' hv ν1 w2 b2 ro q1 (Nat.le_trans hG q3.next) q2 (hrd.ext (h.extTo q3))) fun e3 b3 w3 hq3 => ?_
        obtain ⟨rfl, ν2, p1, p2, p3⟩ := hq3
        exact ⟨rfl, ν2, p1, p2, q3.trans p3⟩
      | exit id => simp only [hx] at hv; cases hv; exact ⟨rfl, ν1, q1, q2, q3⟩
      | goto l => simp only [hx] at hv; cases hv; exact ⟨rfl, ν1, q1, q2, q3⟩
      | ret => simp only [hx] at hv; cases hv; exact ⟨rfl, ν1, q1, q2, q3⟩
      | panic ch => simp only [hx] at hv; cases hv; exact ⟨rfl, ν1, q1, q2, q3⟩
      | outgrown => simp only [hx] at hv; cases hv; exact ⟨rfl, ν1, q1, q2, q3⟩
  | cond c x y ihx ihy =>
    intro a H e a' H' hv ν w b ro h hG hab hrd
    simp only [evC] at hv
    split at hv
    case isFalse => cases hv
    rename_i hok
    have hc := eval_rel h hab hok
    split at hv
    · rename_i hb
      rw [hb] at hc
      refine wpIn_cond_true ?_ (ihx a H e a' H' hv ν w b ro h hG hab hrd)
      generalize b.eval c = x at hc
      cases hc; rfl
    · rename_i hb
      rw [hb] at hc
      refine wpIn_cond_false ?_ (ihy a H e a' H' hv ν w b ro h hG hab hrd)
      generalize b.eval c = x at hc
      cases hc; rfl
    · cases hv
  | block id c ih =>
    intro a H e a' H' hv ν w b ro h hG hab hrd
    simp only [evC] at hv
    refine wpIn_block ?_
    cases hx : evC E G R dr rd c a H with
    | none => simp [hx] at hv
    | some p =>
      obtain ⟨e1, a1, H1⟩ := p
      refine wpIn_mono (ih a H e1 a1 H1 hx ν w b ro h hG hab hrd) fun e2 b2 w2 hq => ?_
      obtain ⟨rfl, ν1, q1, q2, q3⟩ := hq
      cases e2 with
      | exit id' =>
        simp only [hx] at hv
        simp only [Exit.inBlock]
        by_cases hid : id' = id
        · rw [if_pos hid] at hv ⊢
          cases hv; exact ⟨rfl, ν1, q1, q2, q3⟩
        · rw [if_neg hid] at hv ⊢
          cases hv; exact ⟨rfl, ν1, q1, q2, q3⟩
      | normal => simp only [hx] at hv; cases hv; exact ⟨rfl, ν1, q1, q2, q3⟩
      | goto l => simp only [hx] at hv; cases hv; exact ⟨rfl, ν1, q1, q2, q3⟩
      | ret => simp only [hx] at hv; cases hv; exact ⟨rfl, ν1, q1, q2, q3⟩
      | panic ch => simp only [hx] at hv; cases hv; exact ⟨rfl, ν1, q1, q2, q3⟩
      | outgrown => simp only [hx] at hv; cases hv; exact ⟨rfl, ν1, q1, q2, q3⟩
  | loop c ih =>
    intro a H e a' H' hv ν w b ro h hG hab hrd
    exact (hR.loop rd c a H e a' H' hv ν w b ro h hG hab hrd).wpIn
  | rangeFunc f ps asg body iha ihb =>
    intro a H e a' H' hv ν w b ro h hG hab hrd
    exact evRange_ok E hE hR hv h hG hab hrd
  | exit id =>
    intro a H e a' H' hv ν w b ro h hG hab hrd
    simp only [evC, Option.some.injEq, Prod.mk.injEq] at hv
    obtain ⟨rfl, rfl, rfl⟩ := hv
    exact wpIn_exit ⟨rfl, ν, h, hab, Later.refl _ _ _⟩
  | scope c ih => intro a H e a' H' hv; simp [evC] at hv
  | goto l => intro a H e a' H' hv; simp [evC] at hv
  | ret =>
    intro a H e a' H' hv ν w b ro h hG hab hrd
    simp only [evC, Option.some.injEq, Prod.mk.injEq] at hv
    obtain ⟨rfl, rfl, rfl⟩ := hv
    exact wpIn_ret ⟨rfl, ν, h, hab, Later.refl _ _ _⟩
  | refuse why => intro a H e a' H' hv; simp [evC] at hv
end
end Go.Ev
/- Calls and rounds: the evaluator closed over itself, and its soundness. -/
namespace Go.Ev
noncomputable section
variable {P : Program}

def aresult (E : Env P) (H : AHeap) (tmps : Array Value) : ResultVar → Option Value
  | .tmp t => some (tmps.getD t undef)
  | .cell c t => aload E H t (tmps.getD c undef)

def aresults (E : Env P) (H : AHeap) (tmps : Array Value) : List ResultVar → Option (List Value)
  | [] => some []
  | r :: rs => match aresult E H tmps r, aresults E H tmps rs with
    | some v, some vs => some (v :: vs)
    | _, _ => none

def oneOf : List Value → Value
  | [v] => v
  | vs => .tuple vs.toArray

/-- The marks of ranges over functions, taken when a call leaves. -/
def aleave : List Deferred → AHeap → Option AHeap
  | [], H => some H
  | d :: ds, H => match d.target with
    | .collected n => match H.get n with
      | some (.deferred false) => aleave ds (H.put n (some (.deferred true)))
      | _ => none
    | _ => none

def evCall (E : Env P) (G : Nat) (R : Recs) (dr : Draw) (f : FuncId) (args : Array Value) (H : AHeap) : Option (Value × AHeap) :=
  match E.func f with
  | some fn => match fn.body with
    | some c =>
      match evC E G R dr none c { tmps := args ++ Array.replicate (fn.ntmps - args.size) undef, defers := [] } H with
      | some (e, a, H1) =>
        match e with
        | .normal | .ret =>
          match aleave a.defers H1 with
          | some H2 => match aresults E H2 a.tmps fn.results.toList with
            | some vs => some (oneOf vs, H2)
            | none => none
          | none => none
        | _ => none
      | none => none
    | none => none
  | none => none

def jumpOf : Exit → Option (Option Code)
  | .normal => some none
  | .ret => some (some .ret)
  | .exit id => some (some (.exit id))
  | _ => none

def evRound (E : Env P) (G : Nat) (R : Recs) (dr : Draw) (l : Nat) (args : Array Value) (H : AHeap) : Option (Value × AHeap) :=
  match H.get l with
  | some (.loop r) =>
    if args.size = r.params.size then
      match evC E G R dr (some l) r.assign { tmps := (r.params.zip args).foldl (fun tmps (t, a) => tmps.setIfInBounds t a) r.tmps, defers := [] } H with
      | some (.normal, a1, H1) =>
        match H1.get l with
        | some (.loop r1) =>
          if r1.state = .ready then
            match evC E G R dr (some l) r.body a1 (H1.put l (some (.loop { r1 with state := .busy }))) with
            | some (e, _, H3) =>
              match jumpOf e, H3.get l with
              | some j, some (.loop r3) => some (.bool j.isNone, H3.put l (some (.loop { r3 with state := if j.isNone then .ready else .done, pending := j })))
              | _, _ => none
            | none => none
          else none
        | _ => none
      | _ => none
    else none
  | _ => none

def evLoop (E : Env P) (G : Nat) (R : Recs) (dr : Draw) (rd : Option Nat) (c : Code) (a : Act) (H : AHeap) : Option (Exit × Act × AHeap) :=
  match evC E G R dr rd c a H with
  | some (.normal, a', H') => R.loop rd c a' H'
  | r => r

/-- The evaluator with so many steps of itself. -/
def ev (E : Env P) (G : Nat) (dr : Recs → Draw) : Nat → Recs
  | 0 => { loop := fun _ _ _ _ => none, call := fun _ _ _ => none, round := fun _ _ _ => none }
  | n + 1 =>
    { loop := evLoop E G (ev E G dr n) (dr (ev E G dr n)), call := evCall E G (ev E G dr n) (dr (ev E G dr n)), round := evRound E G (ev E G dr n) (dr (ev E G dr n)) }

/-- The machine's reading of one result. -/
def resSem (tmps : Array Value) (r : ResultVar) : Sem Value :=
  match r with
  | .tmp t => pure (tmps.getD t undef)
  | .cell a t => do loadVar t (← asAddr (tmps.getD a undef))

theorem results_eq (fn : Func) (tmps : Array Value) : results fn tmps = (do
    let vs ← fn.results.mapM (resSem tmps)
    pure (if h : vs.size = 1 then vs[0] else .tuple vs)) := rfl

theorem aresult_ok (E : Env P) {G : Nat} {ν : Ren} {H : AHeap} {w : World} (h : HRel G ν H w) {tmps tmps' : Array Value} (ht : ARel ν tmps tmps') {r : ResultVar} {v : Value} (hv : aresult E H tmps r = some v) :
    ∃ v', (resSem tmps' r).run P w = .ok v' w ∧ VRel ν v v' := by
  cases r with
  | tmp t =>
    simp only [aresult, Option.some.injEq] at hv
    subst hv
    exact ⟨_, rfl, ht.getD t⟩
  | cell c t =>
    simp only [aresult] at hv
    obtain ⟨v', p1, p2⟩ := aload_ok E h (ht.getD c) hv
    refine ⟨v', ?_, p2⟩
    have hp : ∃ ad, tmps'.getD c undef = .pointer (some ad) := by
      have hx := ht.getD c
      unfold aload at hv
      split at hv
      · rename_i n off hc
        rw [hc] at hx
        generalize tmps'.getD c undef = y at hx
        cases hx
        exact ⟨_, rfl⟩
      · cases hv
    obtain ⟨ad, had⟩ := hp
    rw [had] at p1
    simp only [Instr.loadAt, Instr.sureAddr, Sem.run_bind, Sem.run_pure, Result.andThen_ok] at p1
    simp only [resSem, had, asAddr, Sem.run_bind, Sem.run_pure, Result.andThen_ok]
    exact p1

theorem aresults_ok (E : Env P) {G : Nat} {ν : Ren} {H : AHeap} {w : World} (h : HRel G ν H w) {tmps tmps' : Array Value} (ht : ARel ν tmps tmps') : ∀ (rs : List ResultVar) (vs : List Value), aresults E H tmps rs = some vs →
    ∃ vs', (rs.mapM (resSem tmps')).run P w = .ok vs' w ∧ ARel ν vs.toArray vs'.toArray
  | [], vs, hv => by
    simp only [aresults, Option.some.injEq] at hv
    subst hv
    exact ⟨[], by simp, ARel.empty ν⟩
  | r :: rs, vs, hv => by
    simp only [aresults] at hv
    split at hv
    · rename_i v vs1 h1 h2
      cases hv
      obtain ⟨vs', g1, g2⟩ := aresults_ok E h ht rs vs1 h2
      obtain ⟨v', q1, q2⟩ := aresult_ok E h ht h1
      refine ⟨v' :: vs', ?_, ?_⟩
      · simp only [List.mapM_cons, Sem.run_bind, q1, Result.andThen_ok, g1, Sem.run_pure]
      · have e1 : (v :: vs1).toArray = #[v] ++ vs1.toArray := by simp
        have e2 : (v' :: vs').toArray = #[v'] ++ vs'.toArray := by simp
        rw [e1, e2]
        have := (ARel.empty ν).push q2
        exact ARel.append (by simpa using this) g2
    · cases hv

theorem oneOf_rel {ν : Ren} {vs vs' : List Value} (h : ARel ν vs.toArray vs'.toArray) : VRel ν (oneOf vs) (if hh : vs'.toArray.size = 1 then vs'.toArray[0] else .tuple vs'.toArray) := by
  have hl : vs.length = vs'.length := by simpa using h.1
  match vs, vs', hl with
  | [], [], _ => exact .tuple h.1 h.2
  | [v], [v'], _ =>
    have := h.getD 0
    simpa [oneOf, Array.getD] using this
  | a :: b :: c, a' :: b' :: c', _ =>
    have : ¬ ((a' :: b' :: c').toArray.size = 1) := by simp
    rw [dif_neg this]
    exact .tuple h.1 h.2

theorem results_ok (E : Env P) {G : Nat} {ν : Ren} {H : AHeap} {w : World} (h : HRel G ν H w) {tmps tmps' : Array Value} (ht : ARel ν tmps tmps') (fn : Func) {vs : List Value} (hv : aresults E H tmps fn.results.toList = some vs) :
    ∃ v', (results fn tmps').run P w = .ok v' w ∧ VRel ν (oneOf vs) v' := by
  obtain ⟨vs', g1, g2⟩ := aresults_ok E h ht _ _ hv
  refine ⟨_, ?_, oneOf_rel g2⟩
  rw [results_eq, Array.mapM_eq_mapM_toList]
  simp only [Sem.run_bind, Sem.run_map, g1, Result.andThen_ok, Sem.run_pure]

/-- How a call leaves. -/
theorem leave_ok (E : Env P) {G : Nat} {fn : Func} : ∀ (ds ds' : List Deferred) (H H2 : AHeap) (ν : Ren) (w : World) (tmps tmps' : Array Value) (vs : List Value) (R : Ending → World → Prop), aleave ds H = some H2 → DRel ν ds ds' → HRel G ν H w → ARel ν tmps tmps' →
    aresults E H2 tmps fn.results.toList = some vs → (∀ v' w', VRel ν (oneOf vs) v' → HRel G ν H2 w' → Later ν H w ν H2 w' → R (.returned v') w') → LeavesInM Fence.wide 0 P fn tmps' R ds' .returning w
  | [], [], H, H2, ν, w, tmps, tmps', vs, R, hl, _, h, ht, hr, hR => by
    simp only [aleave, Option.some.injEq] at hl
    subst hl
    obtain ⟨v', g1, g2⟩ := results_ok E h ht fn hr
    exact ⟨v', g1, hR v' w g2 h (Later.refl _ _ _)⟩
  | d :: ds, d' :: ds', H, H2, ν, w, tmps, tmps', vs, R, hl, ⟨⟨n, l, e1, e2, e3⟩, hd⟩, h, ht, hr, hR => by
    simp only [aleave, e1] at hl
    split at hl
    · rename_i hg
      obtain ⟨hb0, q1⟩ := h.notCells hg e2
      have hfin := h.setObj (o' := .deferred true) (obj' := .deferred none) hg e2 rfl rfl ⟨hb0, by simp [h.block _ _ e2]⟩
      refine ⟨(by simp), .inl ⟨l.block, _, e3, ?_, leave_ok E ds ds' _ H2 ν _ tmps tmps' vs R hl hd hfin.1 ht hr (fun v' w' a1 a2 a3 => hR v' w' a1 a2 (hfin.2.trans a3))⟩⟩
      simp only [Bool.false_eq_true, if_false] at q1
      simp only [Instr.takeDeferred, Sem.run_bind]
      have hget : (getObj l.block).run P w = .ok (.deferred (some [])) w := by simp [getObj, Sem.run, q1]
      have hset : (setObj l.block (.deferred none)).run P w = .ok () { w with heap := w.heap.setIfInBounds l.block (.deferred none) } := by simp [setObj, Sem.run, q1]
      simp only [hget, Result.andThen_ok, Sem.run_bind, hset, Sem.run_pure]
    · cases hl

theorem evCall_ok (E : Env P) (hE : E.Good) {G : Nat} {R : Recs} {dr : Draw} (hR : RecsOk P G R) (hD : DrawOk P G dr) (f : FuncId) (args : Array Value) (H : AHeap) (v : Value) (H' : AHeap) (hv : evCall E G R dr f args H = some (v, H'))
    (ν : Ren) (w : World) (args' : Array Value) (h : HRel G ν H w) (hG : G ≤ H.next) (ha : ARel ν args args') : CallsIn Fence.wide 0 P f args' w (RetPost G ν H w v H') := by
  unfold evCall at hv
  split at hv
  case h_2 => cases hv
  rename_i fn hfn
  split at hv
  case h_2 => cases hv
  rename_i c hc
  split at hv
  case h_2 => cases hv
  rename_i e a H1 hev
  have hab : ActRel ν { tmps := args ++ Array.replicate (fn.ntmps - args.size) undef, defers := [] } { tmps := args' ++ Array.replicate (fn.ntmps - args'.size) undef, defers := [] } :=
    ⟨by rw [← ha.1]; exact ha.append (ARel.replicate ν _ (VRel.und ν)), trivial⟩
  have hcode := evC_ok E hE hR hD none c _ H e a H1 hev ν w _ none h hG hab (.inl ⟨rfl, rfl⟩)
  refine callsIn_of_wp_marks (E.hfunc hfn) hc trivial ?_
  refine wpIn_mono hcode fun e2 b2 w2 hq => ?_
  obtain ⟨rfl, ν1, q1, q2, q3⟩ := hq
  have fin : ∀ (hl : (match aleave a.defers H1 with
      | some H2 => match aresults E H2 a.tmps fn.results.toList with
        | some vs => some (oneOf vs, H2)
        | none => none
      | none => none) = some (v, H')), LeavesInM Fence.wide 0 P fn b2.tmps (RetPost G ν H w v H') b2.defers .returning w2 := by
    intro hl
    split at hl
    case h_2 => cases hl
    rename_i H2 hleave
    split at hl
    case h_2 => cases hl
    rename_i vs hres
    cases hl
    exact leave_ok E a.defers b2.defers H1 H' ν1 w2 a.tmps b2.tmps vs _ hleave q2.defers q1 q2.tmps hres fun v' w' a1 a2 a3 => ⟨ν1, v', rfl, a1, a2, q3.trans a3⟩
  split at hv
  · exact fin hv
  · exact fin hv
  · cases hv

theorem fold_params {ν : Ren} : ∀ (l l' : List (Tmp × Value)), l.length = l'.length → (∀ (i : Nat) (p p' : Tmp × Value), l[i]? = some p → l'[i]? = some p' → p.1 = p'.1 ∧ VRel ν p.2 p'.2) →
    ∀ (t t' : Array Value), ARel ν t t' → ARel ν (l.foldl (fun tmps p => tmps.setIfInBounds p.1 p.2) t) (l'.foldl (fun tmps p => tmps.setIfInBounds p.1 p.2) t')
  | [], [], _, _, t, t', h => h
  | p :: l, p' :: l', hl, hr, t, t', h => by
    obtain ⟨h1, h2⟩ := hr 0 p p' (by simp) (by simp)
    simp only [List.foldl_cons]
    refine fold_params l l' (by simpa using hl) (fun i q q' a b => hr (i + 1) q q' (by simpa using a) (by simpa using b)) _ _ ?_
    rw [← h1]; exact h.set _ h2
  | [], _ :: _, hl, _, _, _, _ => by simp at hl
  | _ :: _, [], hl, _, _, _, _ => by simp at hl

theorem evRound_ok (E : Env P) (hE : E.Good) {G : Nat} {R : Recs} {dr : Draw} (hR : RecsOk P G R) (hD : DrawOk P G dr) (l : Nat) (args : Array Value) (H : AHeap) (v : Value) (H' : AHeap) (hv : evRound E G R dr l args H = some (v, H'))
    (ν : Ren) (w : World) (k : Loc) (args' : Array Value) (h : HRel G ν H w) (hG : G ≤ H.next) (hk : ν l = some k) (ha : ARel ν args args') :
    ∃ f tmps asg body, (Instr.yield k.block args').run P w = .ok (.round k.block f tmps asg body) w ∧ RoundIn Fence.wide 0 P k.block f tmps asg body w (RetPost G ν H w v H') := by
  unfold evRound at hv
  split at hv
  case h_2 => cases hv
  rename_i r hget
  split at hv
  case isFalse => cases hv
  rename_i hsz
  split at hv
  case h_2 => cases hv
  rename_i a1 H1 hasg
  split at hv
  case h_2 => cases hv
  rename_i r1 hget1
  split at hv
  case isFalse => cases hv
  rename_i hready
  split at hv
  case h_2 => cases hv
  rename_i e a3 H3 hbody
  split at hv
  case h_2 => cases hv
  rename_i j r3 hj hget3
  cases hv
  obtain ⟨hb0, r', p1, p2, p3, p4, p5, p6, p7⟩ := h.notCells hget hk
  have hsz' : args'.size = r'.params.size := by rw [← ha.1, p4]; exact hsz
  refine ⟨r'.fn, (r'.params.zip args').foldl (fun tmps (t, a) => tmps.setIfInBounds t a) r'.tmps, r'.assign, r'.body, ?_, ?_⟩
  · simp [Instr.yield, getLoop_run p1, hsz']
  · rw [p5, p6, p4]
    have hlt := h.block _ _ hk
    refine roundIn_of_wpIn trivial ?_
    have hab : ActRel ν { tmps := (r.params.zip args).foldl (fun tmps (t, a) => tmps.setIfInBounds t a) r.tmps, defers := [] } { tmps := (r.params.zip args').foldl (fun tmps (t, a) => tmps.setIfInBounds t a) r'.tmps, defers := [] } := by
      refine ⟨?_, trivial⟩
      rw [← Array.foldl_toList, ← Array.foldl_toList]
      refine fold_params _ _ (by simp [ha.1]) (fun i p p' h1 h2 => ?_) _ _ p7
      simp only [Array.toList_zip, List.getElem?_zip_eq_some] at h1 h2
      obtain ⟨x1, x2⟩ := h1
      obtain ⟨y1, y2⟩ := h2
      refine ⟨Option.some.inj (x1.symm.trans y1), ?_⟩
      obtain ⟨u, z1, z2⟩ := ha.get? (by simpa using x2)
      have : args'[i]? = some p'.2 := by simpa using y2
      rw [this] at z1; cases z1; exact z2
    have hrd : RdRel ν (some l) (some k.block) := .inr ⟨l, k, rfl, hk, rfl⟩
    have hw := evC_ok E hE hR hD (some l) r.assign _ H .normal a1 H1 hasg ν w _ (some k.block) h hG hab hrd
    refine wpIn_mono hw fun e1 b1 w1 hq => ?_
    obtain ⟨rfl, ν1, q1, q2, q3⟩ := hq
    have hk1 : ν1 l = some k := (h.extTo q3) _ _ hk
    obtain ⟨-, r1', s1, s2, s3, s4, s5, s6, s7⟩ := q1.notCells hget1 hk1
    have hbusy := q1.setObj (o' := .loop { r1 with state := .busy }) (obj' := .loop { r1' with state := .busy }) hget1 hk1 rfl rfl
      ⟨hb0, { r1' with state := .busy }, by simp [q1.block _ _ hk1], rfl, s3, s4, s5, s6, s7⟩
    refine ⟨{ w1 with heap := w1.heap.setIfInBounds k.block (.loop { r1' with state := .busy }) }, ?_, ?_⟩
    · have hst : r1'.state = .ready := s2.trans hready
      simp only [Instr.beginRound, Sem.run_bind, getLoop_run s1, Result.andThen_ok, setLoop_run s1, hst, Sem.run_pure]
    · have hw2 := evC_ok E hE hR hD (some l) r.body a1 _ e a3 H3 hbody ν1 _ b1 (some k.block) hbusy.1 (Nat.le_trans hG (Nat.le_trans q3.next hbusy.2.next)) q2 (hrd.ext (h.extTo q3))
      refine wpIn_mono hw2 fun e3 b3 w3 hq3 => ?_
      obtain ⟨rfl, ν3, t1, t2, t3⟩ := hq3
      have hk3 : ν3 l = some k := (hbusy.1.extTo t3) _ _ hk1
      obtain ⟨-, r3', u1, u2, u3, u4, u5, u6, u7⟩ := t1.notCells hget3 hk3
      have hend := t1.setObj (o' := .loop { r3 with state := if j.isNone then .ready else .done, pending := j }) (obj' := .loop { r3' with state := if j.isNone then .ready else .done, pending := j }) hget3 hk3 rfl rfl
        ⟨hb0, { r3' with state := if j.isNone then .ready else .done, pending := j }, by simp [t1.block _ _ hk3], rfl, rfl, u4, u5, u6, u7⟩
      have hrun : (Instr.endRound k.block j).run P w3 = .ok (.bool j.isNone) { w3 with heap := w3.heap.setIfInBounds k.block (.loop { r3' with state := if j.isNone then .ready else .done, pending := j }) } := by
        simp only [Instr.endRound, Sem.run_bind, getLoop_run u1, Result.andThen_ok, setLoop_run u1, Sem.run_pure]
      have hpost : RetPost G ν H w (.bool j.isNone) (H3.put l (some (.loop { r3 with state := if j.isNone then .ready else .done, pending := j }))) (.returned (.bool j.isNone)) { w3 with heap := w3.heap.setIfInBounds k.block (.loop { r3' with state := if j.isNone then .ready else .done, pending := j }) } :=
        ⟨ν3, _, rfl, .bool _, hend.1, ((q3.trans hbusy.2).trans t3).trans hend.2⟩
      cases e3 <;> simp only [jumpOf, Option.some.injEq] at hj
      · subst hj; exact ⟨_, _, hrun, hpost⟩
      · subst hj; exact ⟨_, _, hrun, hpost⟩
      · cases hj
      · subst hj; exact ⟨_, _, hrun, hpost⟩
      · cases hj
      · cases hj

theorem evLoop_ok (E : Env P) (hE : E.Good) {G : Nat} {R : Recs} {dr : Draw} (hR : RecsOk P G R) (hD : DrawOk P G dr) (rd : Option Nat) (c : Code) (a : Act) (H : AHeap) (e : Exit) (a' : Act) (H' : AHeap) (hv : evLoop E G R dr rd c a H = some (e, a', H'))
    (ν : Ren) (w : World) (b : Act) (ro : Option Nat) (h : HRel G ν H w) (hG : G ≤ H.next) (hab : ActRel ν a b) (hrd : RdRel ν rd ro) : LoopIn (fence ro) 0 P c (CodePost G ν H w e a' H') b w := by
  unfold evLoop at hv
  refine LoopIn.round ?_
  cases hx : evC E G R dr rd c a H with
  | none => simp [hx] at hv
  | some p =>
    obtain ⟨e1, a1, H1⟩ := p
    refine wpIn_mono (evC_ok E hE hR hD rd c a H e1 a1 H1 hx ν w b ro h hG hab hrd) fun e2 b2 w2 hq => ?_
    obtain ⟨rfl, ν1, q1, q2, q3⟩ := hq
    cases e2 with
    | normal =>
      simp only [hx] at hv
      have := hR.loop rd c a1 H1 e a' H' hv ν1 w2 b2 ro q1 (Nat.le_trans hG q3.next) q2 (hrd.ext (h.extTo q3))
      intro bb kk cs hro hb hr
      obtain ⟨e3, a3, w3, hq3, harr⟩ := this bb kk cs hro hb hr
      obtain ⟨rfl, ν2, p1, p2, p3⟩ := hq3
      exact ⟨_, a3, w3, ⟨rfl, ν2, p1, p2, q3.trans p3⟩, harr⟩
    | exit id => simp only [hx] at hv; cases hv; exact ⟨rfl, ν1, q1, q2, q3⟩
    | goto l => simp only [hx] at hv; cases hv; exact ⟨rfl, ν1, q1, q2, q3⟩
    | ret => simp only [hx] at hv; cases hv; exact ⟨rfl, ν1, q1, q2, q3⟩
    | panic ch => simp only [hx] at hv; cases hv; exact ⟨rfl, ν1, q1, q2, q3⟩
    | outgrown => simp only [hx] at hv; cases hv; exact ⟨rfl, ν1, q1, q2, q3⟩

/-- The evaluator is sound. -/
theorem ev_ok (E : Env P) (hE : E.Good) {G : Nat} {dr : Recs → Draw} (hD : ∀ R, RecsOk P G R → DrawOk P G (dr R)) : ∀ n, RecsOk P G (ev E G dr n)
  | 0 => ⟨fun _ _ _ _ _ h => by simp [ev] at h, fun _ _ _ _ _ h => by simp [ev] at h, fun _ _ _ _ _ _ _ h => by simp [ev] at h⟩
  | n + 1 => by
    have ih := ev_ok E hE hD n
    exact ⟨fun f args H v H' hv ν w args' => evCall_ok E hE ih (hD _ ih) f args H v H' hv ν w args', fun l args H v H' hv ν w k args' => evRound_ok E hE ih (hD _ ih) l args H v H' hv ν w k args',
      fun rd c a H e a' H' hv ν w act b => evLoop_ok E hE ih (hD _ ih) rd c a H e a' H' hv ν w act b⟩
end
end Go.Ev
