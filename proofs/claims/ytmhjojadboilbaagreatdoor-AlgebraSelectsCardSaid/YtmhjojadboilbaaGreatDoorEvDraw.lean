/- Objects beside those that a step looks at; an object made under a name that was kept for it. -/
import Derived.Test.YtmhjojadboilbaaGreatDoorEvOps
import Derived.OrdersIn
set_option linter.unusedVariables false
set_option linter.unusedSimpArgs false
set_option linter.unusedSectionVars false
namespace Go.Ev
noncomputable section
variable {P : Program}

/-- Fewer objects. -/
theorem HRel.sub {G : Nat} {ν : Ren} {B K : AHeap} {w : World} (h : HRel G ν B w) (hn : K.next = B.next) (hs : ∀ n o, K.get n = some o → B.get n = some o) : HRel G ν K w where
  obj n o hg := h.obj n o (hs n o hg)
  block := h.block
  fresh n hle := h.fresh n (hn ▸ hle)
  sep m o l n o' l' h1 h2 h3 h4 h5 h6 h7 := h.sep m o l n o' l' (hs _ _ h1) h2 h3 h4 (hs _ _ h5) h6 h7
  glob := h.glob

/-- B is K and the objects X beside it. -/
structure Over (X : Nat → Option AObj) (K B : AHeap) : Prop where
  next : B.next = K.next
  hit : ∀ n o, X n = some o → B.get n = some o
  miss : ∀ n, X n = none → B.get n = K.get n

theorem Over.cases {X : Nat → Option AObj} {K B : AHeap} (h : Over X K B) {n : Nat} {o : AObj} (hg : B.get n = some o) : X n = some o ∨ (X n = none ∧ K.get n = some o) := by
  cases hx : X n with
  | some o' => rw [h.hit n o' hx] at hg; exact .inl hg
  | none => rw [h.miss n hx] at hg; exact .inr ⟨rfl, hg⟩

theorem Over.sub {X : Nat → Option AObj} {K B : AHeap} (h : Over X K B) (hX : ∀ n o, X n = some o → K.get n = none) : ∀ n o, K.get n = some o → B.get n = some o := by
  intro n o hg
  cases hx : X n with
  | some o' => rw [hX n o' hx] at hg; cases hg
  | none => rw [h.miss n hx]; exact hg

theorem frame_ok {G : Nat} {ν ν' : Ren} {B K B' K' : AHeap} {w w' : World} {X : Nat → Option AObj} (hB : HRel G ν B w) (hov : Over X K B)
    (hX : ∀ n o, X n = some o → K.get n = none ∧ n < K.next ∧ o.live = true ∧ o.olds = [])
    (h' : HRel G ν' K' w') (hl : Later ν K w ν' K' w') (hov' : Over X K' B') : HRel G ν' B' w' ∧ Later ν B w ν' B' w' := by
  have hK : HRel G ν K w := hB.sub hov.next.symm (hov.sub fun n o hx => (hX n o hx).1)
  have he := hK.extTo hl
  -- no object of K shares a block with one of X
  have apart : ∀ n o l m o' l', X n = some o → ν n = some l → K.get m = some o' → ν m = some l' → l'.block ≠ l.block := by
    intro n o l m o' l' hx hnl hm hml hb
    have hne : m ≠ n := by intro e; subst e; rw [(hX m o hx).1] at hm; cases hm
    have := hB.sep n o l m o' l' (hov.hit n o hx) (hX n o hx).2.2.1 hnl hne (hov.sub (fun n o hx => (hX n o hx).1) m o' hm) hml hb
    rw [(hX n o hx).2.2.2] at this
    simp at this
  have same : ∀ n o l, X n = some o → ν' n = some l → ν n = some l := by
    intro n o l hx hl'
    rw [← hl.ext n (hX n o hx).2.1]; exact hl'
  -- nor does an object of K'
  have apart' : ∀ n o l m o' l', X n = some o → ν' n = some l → K'.get m = some o' → ν' m = some l' → l'.block ≠ l.block := by
    intro n o l m o' l' hx hnl hm hml hb
    have hnl0 := same n o l hx hnl
    have hlt := hB.block n l hnl0
    obtain ⟨m2, o2, l2, g1, g2, g3, -⟩ := hl.names m o' l' hm hml (hb ▸ hlt)
    exact apart n o l m2 o2 l2 hx hnl0 g1 g2 (g3.trans hb)
  refine ⟨⟨?_, h'.block, fun n hn => h'.fresh n (hov'.next ▸ hn), ?_, h'.glob⟩, ⟨fun n hn => hl.ext n (hov.next ▸ hn), ?_, hl.os, hl.tape, hl.output, hl.size, ?_, ?_, hl.froz⟩⟩
  · intro n o hg
    rcases hov'.cases hg with hx | ⟨-, hg'⟩
    · obtain ⟨l, h1, h2⟩ := hB.obj n o (hov.hit n o hx)
      refine ⟨l, he _ _ h1, h2.keep he ?_⟩
      exact hl.frame l.block (hB.block n l h1) fun m o' l' hm _ hml => apart n o l m o' l' hx h1 hm hml
    · exact h'.obj n o hg'
  · intro m o l n o' l' h1 h2 h3 h4 h5 h6 h7
    rcases hov'.cases h1 with hx | ⟨-, h1'⟩
    · rcases hov'.cases h5 with hy | ⟨-, h5'⟩
      · exact hB.sep m o l n o' l' (hov.hit m o hx) h2 (same m o l hx h3) h4 (hov.hit n o' hy) (same n o' l' hy h6) h7
      · exact absurd h7 (apart' m o l n o' l' hx h3 h5' h6)
    · rcases hov'.cases h5 with hy | ⟨-, h5'⟩
      · exact absurd h7.symm (apart' n o' l' m o l hy h6 h1' h3)
      · exact h'.sep m o l n o' l' h1' h2 h3 h4 h5' h6 h7
  · rw [hov.next, hov'.next]; exact hl.next
  · intro b hb hno
    exact hl.frame b hb fun m o l hm hlive hml => hno m o l (hov.sub (fun n o hx => (hX n o hx).1) m o hm) hlive hml
  · intro n o l hg hnl hlt
    rcases hov'.cases hg with hx | ⟨-, hg'⟩
    · exact ⟨n, o, l, hov.hit n o hx, same n o l hx hnl, rfl, id⟩
    · obtain ⟨m, o2, l2, g1, g2, g3, g4⟩ := hl.names n o l hg' hnl hlt
      exact ⟨m, o2, l2, hov.sub (fun n o hx => (hX n o hx).1) m o2 g1, g2, g3, g4⟩

/-- A new object under a name that was kept for it. -/
theorem addAt {G : Nat} {ν : Ren} {B B' : AHeap} {w : World} (h : HRel G ν B w) (n : Nat) (ob : AObj) (obj : Obj) (L : Loc) (hG : G ≤ n) (hn : n < B.next) (hno : ν n = none)
    (hL : L.block = w.heap.size) (ho : ORel (ν.add n L) L ob { w with heap := w.heap.push obj }) (hnext : B'.next = B.next) (hget : ∀ m, B'.get m = if m = n then some ob else B.get m) (hlive : ob.live = true) :
    HRel G (ν.add n L) B' { w with heap := w.heap.push obj } ∧ ExtTo ν (ν.add n L) ∧
      ∀ {ν₀ : Ren} {H₀ : AHeap} {w₀ : World}, Later ν₀ H₀ w₀ ν B w → H₀.next ≤ n → Later ν₀ H₀ w₀ (ν.add n L) B' { w with heap := w.heap.push obj } := by
  have he : ExtTo ν (ν.add n L) := by
    intro m l hm
    have : m ≠ n := by intro e; subst e; rw [hno] at hm; cases hm
    simp [Ren.add, this, hm]
  have old : ∀ m l, m ≠ n → (ν.add n L) m = some l → ν m = some l := by
    intro m l hne hl; simpa [Ren.add, hne] using hl
  have new : (ν.add n L) n = some L := by simp [Ren.add]
  refine ⟨⟨?_, ?_, ?_, ?_, ?_⟩, he, ?_⟩
  · intro m o' hm
    rw [hget] at hm
    split at hm
    · rename_i hne; cases hm; subst hne; exact ⟨_, new, ho⟩
    · obtain ⟨l, h1, h2⟩ := h.obj m o' hm
      have := h.block m l h1
      exact ⟨l, he _ _ h1, h2.keep he (by simp [Array.getElem?_push]; omega)⟩
  · intro m l hl
    by_cases hne : m = n
    · subst hne; rw [new] at hl; cases hl; simp [hL]
    · have := h.block m l (old m l hne hl); simp; omega
  · intro m hm
    have hne : m ≠ n := by rw [hnext] at hm; omega
    simp [Ren.add, hne]; exact h.fresh m (hnext ▸ hm)
  · intro m o₁ l k o' l' h1 h2 h3 h4 h5 h6 h7
    rw [hget] at h1 h5
    by_cases hm : m = n
    · have hk : k ≠ n := by rw [hm] at h4; exact h4
      rw [if_neg hk] at h5
      have := h.block k l' (old k l' hk h6)
      rw [hm, new] at h3; cases h3; omega
    · rw [if_neg hm] at h1
      have hlm := h.block m l (old m l hm h3)
      by_cases hk : k = n
      · rw [hk, new] at h6; cases h6; omega
      · rw [if_neg hk] at h5
        exact h.sep m o₁ l k o' l' h1 h2 (old m l hm h3) h4 h5 (old k l' hk h6) h7
  · intro g hg
    obtain ⟨l, h1, h2⟩ := h.glob g hg
    exact ⟨l, he _ _ h1, h2⟩
  · intro ν₀ H₀ w₀ hl hle
    refine ⟨fun m hm => ?_, hnext ▸ hl.next, hl.os, hl.tape, hl.output, ?_, ?_, ?_, fun b => (fzOf_push w obj (ORel.melt ho hL hlive) b).trans (hl.froz b)⟩
    · have : m ≠ n := by omega
      simp [Ren.add, this]; exact hl.ext m hm
    · have := hl.size; simp; omega
    · intro b hb hno'
      have h1 := hl.frame b hb hno'
      have h2 := hl.size
      rw [← h1]
      simp [Array.getElem?_push]; omega
    · intro m o l hm hml hlt
      rw [hget] at hm
      split at hm
      · rename_i hne; subst hne
        rw [new] at hml; cases hml
        have := hl.size; omega
      · exact hl.names m o l hm (old m l (by assumption) hml) hlt
end
end Go.Ev
/- A region that draws its order: one evaluation that is right for every order. -/
namespace Go.Ev
noncomputable section
variable {P : Program}

/-! ### Equality of values, computed -/

def veq : Nat → Value → Value → Bool
  | _, .bool a, .bool b => a == b
  | _, .int j a, .int k b => decide (j = k) && decide (a = b)
  | _, .string a, .string b => a.data.toList == b.data.toList
  | _, .pointer a, .pointer b => decide (a = b)
  | _, .slice a l c, .slice b m d => decide (a = b) && decide (l = m) && decide (c = d)
  | _, .map a, .map b => decide (a = b)
  | _, .nilFunc, .nilFunc => true
  | _, .nilIface, .nilIface => true
  | n + 1, .func f a b, .func g c d => decide (f = g) && decide (a.size = c.size) && decide (b.size = d.size) && (a.toList.zip c.toList).all (fun p => veq n p.1 p.2) && (b.toList.zip d.toList).all (fun p => veq n p.1 p.2)
  | n + 1, .iface t v, .iface u w => decide (t = u) && veq n v w
  | n + 1, .agg a, .agg b => decide (a.size = b.size) && (a.toList.zip b.toList).all (fun p => veq n p.1 p.2)
  | n + 1, .tuple a, .tuple b => decide (a.size = b.size) && (a.toList.zip b.toList).all (fun p => veq n p.1 p.2)
  | _, _, _ => false

theorem zip_all_eq {f : Value → Value → Bool} (hf : ∀ x y, f x y = true → x = y) : ∀ (l m : List Value), l.length = m.length → (l.zip m).all (fun p => f p.1 p.2) = true → l = m
  | [], [], _, _ => rfl
  | x :: l, y :: m, hl, h => by
    simp only [List.zip_cons_cons, List.all_cons, Bool.and_eq_true] at h
    rw [hf x y h.1, zip_all_eq hf l m (by simpa using hl) h.2]
  | [], _ :: _, hl, _ => by simp at hl
  | _ :: _, [], hl, _ => by simp at hl

theorem arr_eq {f : Value → Value → Bool} (hf : ∀ x y, f x y = true → x = y) (a b : Array Value) (hs : a.size = b.size) (h : (a.toList.zip b.toList).all (fun p => f p.1 p.2) = true) : a = b :=
  Array.ext' (zip_all_eq hf a.toList b.toList (by simpa using hs) h)

theorem veq_eq : ∀ (n : Nat) (x y : Value), veq n x y = true → x = y := by
  intro n
  induction n with
  | zero =>
    intro x y h
    cases x <;> cases y <;> simp [veq] at h
    case bool => rw [h]
    case int => obtain ⟨rfl, rfl⟩ := h; rfl
    case string a b => cases a; cases b; simp_all
    case pointer => rw [h]
    case slice => obtain ⟨⟨rfl, rfl⟩, rfl⟩ := h; rfl
    case map => rw [h]
    case nilFunc => rfl
    case nilIface => rfl
  | succ n ih =>
    intro x y h
    cases x <;> cases y <;> simp only [veq, Bool.and_eq_true, decide_eq_true_eq, beq_iff_eq, Bool.false_eq_true] at h
    case bool => rw [h]
    case int => obtain ⟨rfl, rfl⟩ := h; rfl
    case string a b => cases a; cases b; simp_all
    case pointer => rw [h]
    case slice => obtain ⟨⟨rfl, rfl⟩, rfl⟩ := h; rfl
    case map => rw [h]
    case nilFunc => rfl
    case nilIface => rfl
    case func => obtain ⟨⟨⟨⟨rfl, h2⟩, h3⟩, h4⟩, h5⟩ := h; rw [arr_eq ih _ _ h2 h4, arr_eq ih _ _ h3 h5]
    case iface => obtain ⟨rfl, h2⟩ := h; rw [ih _ _ h2]
    case agg => rw [arr_eq ih _ _ h.1 h.2]
    case tuple => rw [arr_eq ih _ _ h.1 h.2]

/-! ### What an operation does to memory -/

inductive Kind where
  /-- reads no memory -/
  | calm
  /-- reads memory -/
  | still
  /-- makes an object -/
  | fresh
  /-- all else -/
  | acts

def callKind (c : Call) : Kind :=
  match c.callee with
  | .builtin .len | .builtin .cap | .builtin .max | .builtin .min => .still
  | _ => .acts

def kindOf : Op → Kind
  | .move _ | .assign _ | .pick .. | .build .. | .nilCheck _ | .binOp .. | .unOp .. | .makeInterface .. | .makeFunc .. | .fieldAddr .. | .field .. | .indexAddr .. | .index .. | .extract .. => .calm
  | .load .. | .convert .. | .slice .. | .lookup .. | .entry _ => .still
  | .alloc _ | .box .. | .buildSlice .. | .makeMap .. | .makeSlice .. => .fresh
  | .call c => callKind c
  | _ => .acts

/-- An object made under a name that was kept for it. -/
def anew (E : Env P) (a : Act) (o : Oper) (n : Nat) : Option (Value × AObj) :=
  match aop E ⟨.leaf, n⟩ a o with
  | some (.val v H) => match H.get n with
    | some ob => some (v, ob)
    | none => none
  | _ => none

/-- For each operation, those that always come before it, as bits. -/
def ancGo : List Oper → Array Nat → Array Nat
  | [], acc => acc
  | o :: os, acc => ancGo os (acc.push (o.after.toList.foldl (fun s e => if Region.binds .any e then s ||| 2 ^ e.on ||| acc.getD e.on 0 else s) 0))

def ancOf (ops : Array Oper) : Array Nat := ancGo ops.toList #[]

/-- The temporaries that an operation names. -/
def namesOf (o : Oper) : List Tmp := o.dst.toList ++ o.op.operands.toList.filterMap fun | .tmp t => some t | _ => none

/-- What the text of a region must be like. -/
def drawable (ops : Array Oper) : Bool :=
  let anc := ancOf ops
  ops.toList.zipIdx.all fun (o, i) =>
    o.after.toList.all (fun e => !Region.binds .any e || decide (e.on < i)) &&
    (match o.guard with
      | none => true
      | some (j, _) => (anc.getD i 0).testBit j && (match (ops[j]?).bind (·.dst) with
        | none => true
        | some t => ops.toList.zipIdx.all fun (p, k) => k == j || p.dst != some t)) &&
    ops.toList.zipIdx.all fun (p, k) => match p.dst with
      | none => true
      | some t => k == i || !(namesOf o).contains t || (anc.getD i 0).testBit k || (anc.getD k 0).testBit i

structure DState where
  a : Act
  H : AHeap
  /-- the acting operations done, the last one first -/
  acts : List Nat
  news : List (Nat × AObj)
  stills : List (Nat × Oper × Act × Value)
  /-- the memories behind the acting operations, with those done -/
  hist : List (AHeap × List Nat)

/-- Has an object been handed to an acting operation? -/
def absorbed (anc : Array Nat) (acts : List Nat) (j : Nat) : Bool := acts.any fun q => (anc.getD q 0).testBit j

/-- The memory that an operation may count on. -/
def heapAt (anc : Array Nat) (base : Nat) (H : AHeap) (acts : List Nat) (want : Nat → Bool) : List (Nat × AObj) → AHeap
  | [] => H
  | p :: ps => if want p.1 && !absorbed anc acts p.1 then (heapAt anc base H acts want ps).put (base + p.1) (some p.2) else heapAt anc base H acts want ps

/-- Does an operation come with each acting one in one order only? -/
def ordered (ops : Array Oper) (anc : Array Nat) (i : Nat) : Bool :=
  ops.toList.zipIdx.all fun (o, q) => (match kindOf o.op with | .acts => false | _ => true) || (anc.getD i 0).testBit q || (anc.getD q 0).testBit i

/-- The memory that operation i may count on. -/
def heapFor (anc : Array Nat) (base i : Nat) (s : DState) : AHeap := heapAt anc base s.H s.acts (fun j => (anc.getD i 0).testBit j) s.news

def drawStep (E : Env P) (G : Nat) (R : Recs) (ops : Array Oper) (anc : Array Nat) (base : Nat) (o : Oper) (i : Nat) (s : DState) : Option DState :=
  if Region.wanted o (yielded ops s.a.tmps) = true then
    if o.op.operands.all (okOpd G) = true then
      match kindOf o.op with
      | .calm =>
        match aop E s.H s.a o with
        | some (.val v _) => some { s with a := s.a.put o.dst v }
        | _ => none
      | .still =>
        match aop E (heapFor anc base i s) s.a o with
        | some (.val v _) => some { s with a := s.a.put o.dst v, stills := if ordered ops anc i = true then s.stills else (i, o, s.a, v) :: s.stills }
        | _ => none
      | .fresh =>
        match anew E s.a o (base + i) with
        | some (v, ob) => some { s with a := s.a.put o.dst v, news := (i, ob) :: s.news }
        | none => none
      | .acts =>
        if s.acts.all (fun q => (anc.getD i 0).testBit q) = true then
          match evOp E G R (heapFor anc base i s) s.a o with
          | some (v, H') => some { s with a := s.a.put o.dst v, H := H', acts := i :: s.acts, hist := (H', i :: s.acts) :: s.hist }
          | none => none
        else none
    else none
  else some { s with a := s.a.put o.dst undef }

def drawGo (E : Env P) (G : Nat) (R : Recs) (ops : Array Oper) (anc : Array Nat) (base : Nat) : List Oper → Nat → DState → Option DState
  | [], _, s => some s
  | o :: os, i, s =>
    match drawStep E G R ops anc base o i s with
    | some s' => drawGo E G R ops anc base os (i + 1) s'
    | none => none

/-- Does a reading operation read the same at each time at which it may stand? And is no name that is kept for an object taken? -/
def stable (E : Env P) (anc : Array Nat) (base : Nat) (s : DState) : Bool :=
  (s.stills.all fun (i, o, a, v) => s.hist.all fun (H, acts) =>
    acts.any (fun q => (anc.getD q 0).testBit i) || s.acts.any (fun q => !acts.contains q && (anc.getD i 0).testBit q) ||
      (match aop E (heapAt anc base H acts (fun j => (anc.getD i 0).testBit j) s.news) a o with
        | some (.val u _) => veq 3 u v
        | _ => false)) &&
  s.news.all fun (j, _) => s.hist.all fun (H, acts) => absorbed anc acts j || (H.get (base + j)).isNone

def evDraw (E : Env P) (G : Nat) (R : Recs) : Draw := fun ops a H =>
  if drawable ops = true then
    match drawGo E G R ops (ancOf ops) H.next ops.toList 0 { a := a, H := { H with next := H.next + ops.size }, acts := [], news := [], stills := [], hist := [({ H with next := H.next + ops.size }, [])] } with
    | some s => if stable E (ancOf ops) H.next s = true then some (s.a, heapAt (ancOf ops) H.next s.H s.acts (fun _ => true) s.news) else none
    | none => none
  else none
end
end Go.Ev
/- What the kinds of operations leave alone. -/
namespace Go.Ev
noncomputable section
variable {P : Program}

theorem val1_eq {H H' : AHeap} {v : Value} {x : Option Value} (h : val1 H x = some (.val v H')) : H' = H ∧ x = some v := by
  cases x <;> simp [val1] at h
  exact ⟨h.2.symm, by rw [h.1]⟩

theorem apure_eq {H H' : AHeap} {a : Act} {o : Oper} {v : Value} (h : apure P H a o = some (.val v H')) : H' = H ∧ ∀ K, apure P K a o = some (.val v K) := by
  unfold apure at h
  split at h
  · rename_i hc
    split at h
    · rename_i u hu
      split at h
      · rename_i hv
        cases h
        exact ⟨rfl, fun K => by unfold apure; rw [if_pos hc, hu]; simp [hv]⟩
      · cases h
    · cases h
  · cases h

/-- A calm operation takes no look at memory. -/
theorem aop_calm (E : Env P) {H H' : AHeap} {a : Act} {o : Oper} {v : Value} (hk : kindOf o.op = .calm) (h : aop E H a o = some (.val v H')) : ∀ K, aop E K a o = some (.val v K) := by
  intro K
  unfold aop at h ⊢
  split at h <;> rename_i ho <;> simp only [ho, kindOf, reduceCtorEq] at hk ⊢
  all_goals first
    | (cases h; rfl)
    | (obtain ⟨-, h2⟩ := val1_eq h; rw [h2]; rfl)
    | exact (apure_eq h).2 K
    | (cases h; done)
    | (unfold callKind at hk; split at hk <;> simp at hk; done)
    | skip
  · split at h
    · cases h; rfl
    · cases h
  · split at h <;> first
      | (cases h; rfl)
      | (cases h; done)
  · unfold abin at h ⊢
    split at h
    · split at h
      · cases h; rfl
      · exact (apure_eq h).2 K
    · split at h
      · cases h; rfl
      · exact (apure_eq h).2 K
    · exact (apure_eq h).2 K
  · split at h
    · exact (apure_eq h).2 K
    · obtain ⟨-, h2⟩ := val1_eq h
      rw [h2]; rfl

theorem acall_still (E : Env P) {H H' : AHeap} {a : Act} {o : Oper} {v : Value} {c : Call} (ho : o.op = .call c) (hk : kindOf o.op = .still) (h : acall E H a o c = some (.val v H')) : H' = H := by
  rw [ho] at hk
  simp only [kindOf, callKind] at hk
  unfold acall at h
  split at h <;> rename_i hc <;> simp only [hc] at hk
  · split at h
    · simp at hk
    · split at h
      · exact (val1_eq h).1
      · cases h
    · split at h
      · exact (val1_eq h).1
      · cases h
    · simp at hk
    · exact (apure_eq h).1
    · exact (apure_eq h).1
    · cases h
  · simp at hk
  · simp at hk

/-- A reading operation leaves memory. -/
theorem aop_still (E : Env P) {H H' : AHeap} {a : Act} {o : Oper} {v : Value} (hk : kindOf o.op = .still) (h : aop E H a o = some (.val v H')) : H' = H := by
  unfold aop at h
  split at h <;> rename_i ho
  all_goals first
    | (rw [ho] at hk; simp [kindOf] at hk; done)
    | exact (val1_eq h).1
    | exact (apure_eq h).1
    | exact acall_still E ho hk h
    | (cases h; done)
    | skip
  · split at h
    · exact (val1_eq h).1
    · exact (apure_eq h).1
  · split at h
    · exact (apure_eq h).1
    · exact (val1_eq h).1

/-- A new object under a name that was kept for it: what the machine does. -/
def NewAt (P : Program) (ν : Ren) (w : World) (n : Nat) (s : Sem Value) (v : Value) (ob : AObj) : Prop :=
  ∃ v' obj L, s.run P w = .ok v' { w with heap := w.heap.push obj } ∧ L.block = w.heap.size ∧
    ∀ ν', ExtTo ν ν' → ν' n = some L → VRel ν' v v' ∧ ORel ν' L ob { w with heap := w.heap.push obj }

theorem rowAt {ν ν' : Ren} {w : World} {c c' : Array Value} (hc : ARel ν c c') (t : TypeId) (he : ExtTo ν ν') :
    ORel ν' ⟨w.heap.size, 0, none, c.size⟩ (.cells c t none true []) { w with heap := w.heap.push (.cells c' t) } :=
  ⟨rfl, c', (0, 0), by simp, fun _ => rfl, by simp [hc.1], hc.1, fun i hi => by simpa using (hc.2 i hi).ext he⟩

theorem get_add_leaf {n : Nat} {X ob : AObj} (h : ((⟨.leaf, n⟩ : AHeap).add X).get n = some ob) : ob = X := by
  rw [AHeap.get_add] at h; simp at h; exact h.symm

theorem anew_ok (E : Env P) {G : Nat} {ν : Ren} {B : AHeap} {w : World} (h : HRel G ν B w) {a b : Act} {o : Oper} {n : Nat} {v : Value} {ob : AObj} (hk : kindOf o.op = .fresh)
    (hops : ∀ x ∈ o.op.operands, VRel ν (a.eval x) (b.eval x)) (hn : anew E a o n = some (v, ob)) :
    (∃ s, execOp b.eval o = (do pure (.value (← s))) ∧ NewAt P ν w n s v ob) ∧ ob.live = true ∧ ob.olds = [] := by
  unfold anew at hn
  split at hn
  case h_2 => cases hn
  rename_i v0 H0 hop
  split at hn
  case h_2 => cases hn
  rename_i ob0 hg
  cases hn
  unfold aop at hop
  split at hop <;> rename_i ho
  all_goals first
    | (rw [ho] at hk; simp [kindOf] at hk; done)
    | (rw [ho] at hk; simp only [kindOf, callKind] at hk; split at hk <;> simp at hk; done)
    | (cases hop; done)
    | skip
  · -- alloc
    rename_i t
    unfold val2 aalloc at hop
    split at hop
    · rename_i p hp
      split at hp
      · rename_i i hi
        split at hp
        · rename_i z hz
          split at hp
          · rename_i hf
            cases hp; cases hop
            obtain rfl := get_add_leaf hg
            exact ⟨⟨_, by simp only [execOp, ho]; rfl, .pointer (some ⟨w.heap.size, 0, none⟩), .cells z.cells t, ⟨w.heap.size, 0, none, z.cells.size⟩,
              by simp [Instr.alloc, run_zero E hi hz, newVar, newRow], rfl, fun ν' he hl => ⟨by simpa using VRel.ptr (off := 0) hl, rowAt (ARel.of_flat hf) t he⟩⟩, rfl, rfl⟩
          · cases hp
        · cases hp
      · cases hp
    · cases hop
  · -- box
    rename_i t x
    cases hop
    obtain rfl := get_add_leaf hg
    have hx := hops x (by rw [ho]; simp [Op.operands])
    exact ⟨⟨_, by simp only [execOp, ho]; rfl, .pointer (some ⟨w.heap.size, 0, none⟩), .cells (b.eval x).cells t, ⟨w.heap.size, 0, none, (a.eval x).cells.size⟩,
      by simp [Instr.box, newVar, newRow], rfl, fun ν' he hl => ⟨(show VRel ν' (.pointer (some ⟨n, 0, none⟩)) _ by simpa using VRel.ptr (off := 0) hl), rowAt hx.cells t he⟩⟩, rfl, rfl⟩
  · -- buildSlice
    rename_i t len ps
    have hps := vlist_rel h ps (fun p hp => hops p.2 (by rw [ho]; simp only [Op.operands]; simp; exact ⟨p.1, by simpa using hp⟩))
    unfold val2 abuildSlice at hop
    split at hop
    case h_2 => cases hop
    rename_i p hp
    split at hp
    case h_2 => cases hp
    rename_i e hd
    split at hp
    case h_2 => cases hp
    rename_i i hi
    split at hp
    case h_2 => cases hp
    rename_i z hz
    split at hp
    case isFalse => cases hp
    rename_i hc
    obtain ⟨hf, hsz, hmax, hpos⟩ := hc
    split at hp
    case h_2 => cases hp
    rename_i cells hfill
    cases hp; cases hop
    obtain rfl := get_add_leaf hg
    obtain ⟨r', h1, h2⟩ := fill_rel _ _ (ps.map fun (i, x) => (i, b.eval x)).toList _ _ cells hps (ARel.of_flat (zeros_flat hf len)) hfill
    have hmax' : ¬ (16777216 < len * i.size) := by omega
    rw [zeros_eq, hsz] at h1
    have key : ∀ l' : Array (Nat × Value), Instr.fill (fun k => some (k * i.size, i.size)) ((Array.range (len * i.size)).map (fun j => z.cells[j % i.size]!)) l'.toList = some r' →
        (Instr.buildSlice t len l').run P w = .ok (.slice (some ⟨w.heap.size, 0, none⟩) len len) { w with heap := w.heap.push (.cells r' e) } := by
      intro l' h1
      by_cases hl0 : len = 0
      · subst hl0
        have r0 : Array.range 0 = #[] := rfl
        simp only [Nat.zero_mul, r0, Array.map_empty] at h1
        simp [Instr.buildSlice, run_und E hd, run_size E hi, r0, h1, newRow]
      · have : ¬ (len * i.size = 0) := by
          have := Nat.mul_pos (Nat.pos_of_ne_zero hl0) hpos; omega
        simp [Instr.buildSlice, run_und E hd, run_size E hi, hmax', this, run_zero E hi hz, hsz, h1, newRow]
    exact ⟨⟨_, by simp only [execOp, ho], .slice (some ⟨w.heap.size, 0, none⟩) len len, .cells r' e, ⟨w.heap.size, 0, none, cells.size⟩, key _ h1, rfl,
      fun ν' he hl => ⟨by simpa using VRel.slice (off := 0) hl (Nat.le_refl _) (Nat.le_refl len) (fun _ => rfl) (by simp), rowAt h2 e he⟩⟩, rfl, rfl⟩
  · -- makeMap
    rename_i t
    cases hop
    obtain rfl := get_add_leaf hg
    exact ⟨⟨_, by simp only [execOp, ho]; rfl, .map (some w.heap.size), .map #[] 0, ⟨w.heap.size, 0, none, 0⟩, rfl, rfl,
      fun ν' he hl => ⟨.map hl, ⟨rfl, #[], by simp, trivial⟩⟩⟩, rfl, rfl⟩
  · -- makeSlice
    rename_i t l c
    have ha := hops l (by rw [ho]; simp [Op.operands])
    have hb := hops c (by rw [ho]; simp [Op.operands])
    unfold val2 amakeSlice at hop
    generalize hal : a.eval l = al at ha hop
    generalize hac : a.eval c = ac at hb hop
    generalize hbl : b.eval l = bl at ha
    generalize hbc : b.eval c = bc at hb
    split at hop
    case h_2 => cases hop
    rename_i p hp
    split at hp
    case h_2 => cases hp
    rename_i e l0 c0 ht
    split at hp
    case h_2 => cases hp
    rename_i i hi
    split at hp
    case h_2 => cases hp
    rename_i z hz
    split at hp
    case isFalse => cases hp
    rename_i hc
    obtain ⟨c1, c2, c3, c4, c5, c6, c7⟩ := hc
    cases hp; cases hop; cases ha; cases hb
    obtain rfl := get_add_leaf hg
    refine ⟨⟨_, by simp only [execOp, ho, hbl, hbc]; rfl, .slice (some ⟨w.heap.size, 0, none⟩) l0.toNat c0.toNat, .cells (zeros z.cells c0.toNat) e, ⟨w.heap.size, 0, none, (zeros z.cells c0.toNat).size⟩, ?_, rfl,
      fun ν' he hl => ⟨by simpa using VRel.slice (off := 0) hl (show l0.toNat ≤ c0.toNat by omega) (Nat.le_refl _) (fun _ => rfl) (by simp), rowAt (ARel.of_flat (zeros_flat c5 c0.toNat)) e he⟩⟩, rfl, rfl⟩
    have hbytes : (i.bytes : Int) * c0 ≤ 281474976710656 := by
      have : ((i.bytes * c0.toNat : Nat) : Int) = (i.bytes : Int) * c0 := by rw [Int.natCast_mul]; congr 1; omega
      omega
    have hr := run_make (P := P) w t e i z (E.hund ht) (E.hinfo hi) hz .i64 .i64 l0 c0 c1 c2 hbytes c3
    rw [hr]
    have hm : madeCells z.cells (c0.toNat * i.size) = zeros z.cells c0.toNat := by rw [zeros_eq, madeCells, c6]
    rw [hm]
    rfl
end
end Go.Ev
/- A region that draws its order: bookkeeping of the one evaluation. -/
namespace Go.Ev
noncomputable section
variable {P : Program}

/-! ### What comes before -/

def AncAt (fin : Array Nat) (o : Oper) (v : Nat) : Prop :=
  ∀ j, v.testBit j = true → ∃ e ∈ o.after.toList, Region.binds .any e = true ∧ (j = e.on ∨ (fin.getD e.on 0).testBit j = true)

theorem anc_fold (acc : Array Nat) (j : Nat) : ∀ (l : List Edge) (s : Nat), (l.foldl (fun s e => if Region.binds .any e then s ||| 2 ^ e.on ||| acc.getD e.on 0 else s) s).testBit j = true →
    s.testBit j = true ∨ ∃ e ∈ l, Region.binds .any e = true ∧ (j = e.on ∨ (acc.getD e.on 0).testBit j = true)
  | [], s, h => .inl h
  | e :: l, s, h => by
    rcases anc_fold acc j l _ h with h1 | ⟨e', h1, h2⟩
    · dsimp only at h1
      split at h1
      · rename_i hb
        rw [Nat.testBit_or, Nat.testBit_or, Bool.or_eq_true, Bool.or_eq_true] at h1
        rcases h1 with (h1 | h1) | h1
        · exact .inl h1
        · rw [Nat.testBit_two_pow] at h1
          exact .inr ⟨e, by simp, hb, .inl (by simpa using h1 : e.on = j).symm⟩
        · exact .inr ⟨e, by simp, hb, .inr h1⟩
      · exact .inl h1
    · exact .inr ⟨e', by simp [h1], h2⟩

theorem ancGo_ok : ∀ (l : List Oper) (acc : Array Nat), (ancGo l acc).size = acc.size + l.length ∧ (∀ k, k < acc.size → (ancGo l acc).getD k 0 = acc.getD k 0) ∧
    ∀ k o, l[k]? = some o → AncAt (ancGo l acc) o ((ancGo l acc).getD (acc.size + k) 0)
  | [], acc => ⟨rfl, fun _ _ => rfl, fun k o h => by simp at h⟩
  | o :: l, acc => by
    unfold ancGo
    generalize hv : List.foldl (fun s e => if Region.binds .any e then s ||| 2 ^ e.on ||| acc.getD e.on 0 else s) 0 o.after.toList = v
    obtain ⟨h1, h2, h3⟩ := ancGo_ok l (acc.push v)
    have low : ∀ k, k < acc.size → (ancGo l (acc.push v)).getD k 0 = acc.getD k 0 := by
      intro k hk
      rw [h2 k (by simp; omega)]
      simp [Array.getD_eq_getD_getElem?, Array.getElem?_push]
      split
      · omega
      · rfl
    refine ⟨by rw [h1]; simp; omega, low, ?_⟩
    intro k o' hk
    cases k with
    | zero =>
      simp only [List.getElem?_cons_zero, Option.some.injEq] at hk
      subst hk
      have e : (ancGo l (acc.push v)).getD (acc.size + 0) 0 = v := by
        rw [h2 _ (by simp)]
        simp [Array.getD_eq_getD_getElem?]
      rw [e]
      intro j hj
      rw [← hv] at hj
      rcases anc_fold acc j _ _ hj with h4 | ⟨e', he', hb, h5⟩
      · simp at h4
      · refine ⟨e', he', hb, ?_⟩
        rcases h5 with h5 | h5
        · exact .inl h5
        · right
          by_cases hlt : e'.on < acc.size
          · rw [low _ hlt]; exact h5
          · simp [Array.getD_eq_getD_getElem?, Array.getElem?_eq_none (Nat.le_of_not_lt hlt)] at h5
    | succ k =>
      have := h3 k o' (by simpa using hk)
      rw [Array.size_push] at this
      rwa [show acc.size + (k + 1) = acc.size + 1 + k by omega]

theorem anc_ok {ops : Array Oper} {i j : Nat} (h : ((ancOf ops).getD i 0).testBit j = true) :
    ∃ o, ops[i]? = some o ∧ ∃ e ∈ o.after.toList, Region.binds .any e = true ∧ (j = e.on ∨ ((ancOf ops).getD e.on 0).testBit j = true) := by
  obtain ⟨h1, h2, h3⟩ := ancGo_ok ops.toList #[]
  have hi : i < ops.size := by
    by_cases hi : i < ops.size
    · exact hi
    · have : (ancOf ops).getD i 0 = 0 := by
        rw [Array.getD_eq_getD_getElem?, Array.getElem?_eq_none]
        · rfl
        · unfold ancOf; rw [h1]; simp; omega
      rw [this] at h; simp at h
  have ho : ops[i]? = some ops[i] := Array.getElem?_eq_getElem hi
  refine ⟨_, ho, ?_⟩
  have := h3 i ops[i] (by rw [Array.getElem?_toList]; exact ho)
  simp only [List.size_toArray, List.length_nil, Nat.zero_add] at this
  exact this j h

section anc
variable {ops : Array Oper} (hlt : ∀ i o, ops[i]? = some o → ∀ e ∈ o.after.toList, Region.binds .any e = true → e.on < i)
include hlt

theorem anc_lt : ∀ (i j : Nat), ((ancOf ops).getD i 0).testBit j = true → j < i := by
  intro i
  induction i using Nat.strongRecOn with
  | _ i ih =>
    intro j h
    obtain ⟨o, ho, e, he, hb, h1⟩ := anc_ok h
    have := hlt i o ho e he hb
    rcases h1 with rfl | h1
    · exact this
    · exact Nat.lt_trans (ih _ this j h1) this

theorem anc_closed {S : Nat → Prop} (hS : ∀ i o, ops[i]? = some o → S i → ∀ e ∈ o.after.toList, Region.binds .any e = true → S e.on) : ∀ (i j : Nat), S i → ((ancOf ops).getD i 0).testBit j = true → S j := by
  intro i
  induction i using Nat.strongRecOn with
  | _ i ih =>
    intro j hi h
    obtain ⟨o, ho, e, he, hb, h1⟩ := anc_ok h
    have h2 := hS i o ho hi e he hb
    rcases h1 with rfl | h1
    · exact h2
    · exact ih _ (hlt i o ho e he hb) j h2 h1
end anc

theorem anc_ready {ops : Array Oper} (hlt : ∀ i o, ops[i]? = some o → ∀ e ∈ o.after.toList, Region.binds .any e = true → e.on < i) {S : Nat → Prop}
    (hS : ∀ i o, ops[i]? = some o → S i → ∀ e ∈ o.after.toList, Region.binds .any e = true → S e.on)
    {i : Nat} {o : Oper} (ho : ops[i]? = some o) (hr : ∀ e ∈ o.after.toList, Region.binds .any e = true → S e.on) (j : Nat) (h : ((ancOf ops).getD i 0).testBit j = true) : S j := by
  obtain ⟨o', ho', e, he, hb, h1⟩ := anc_ok h
  rw [ho] at ho'; cases ho'
  rcases h1 with rfl | h1
  · exact hr e he hb
  · exact anc_closed hlt hS e.on j (hr e he hb) h1

/-! ### Memory with the objects beside it -/

def pick (f : Nat → Bool) (base : Nat) : List (Nat × AObj) → Nat → Option AObj
  | [], _ => none
  | p :: ps, m => if f p.1 = true ∧ m = base + p.1 then some p.2 else pick f base ps m

theorem pick_some {f : Nat → Bool} {base m : Nat} {o : AObj} : ∀ {l : List (Nat × AObj)}, pick f base l m = some o → ∃ j, (j, o) ∈ l ∧ m = base + j ∧ f j = true
  | [], h => by cases h
  | p :: l, h => by
    unfold pick at h
    split at h
    · rename_i hc; cases h; exact ⟨p.1, by simp, hc.2, hc.1⟩
    · obtain ⟨j, h1, h2⟩ := pick_some h; exact ⟨j, by simp [h1], h2⟩

theorem pick_none {f : Nat → Bool} {base m : Nat} : ∀ {l : List (Nat × AObj)}, (∀ p ∈ l, m = base + p.1 → f p.1 = false) → pick f base l m = none
  | [], _ => rfl
  | p :: l, h => by
    unfold pick
    rw [if_neg, pick_none fun q hq => h q (by simp [hq])]
    rintro ⟨h1, h2⟩
    rw [h p (by simp) h2] at h1; cases h1

theorem pick_congr {f g : Nat → Bool} {base m : Nat} : ∀ {l : List (Nat × AObj)}, (∀ p ∈ l, f p.1 = g p.1) → pick f base l m = pick g base l m
  | [], _ => rfl
  | p :: l, h => by
    unfold pick
    rw [h p (by simp), pick_congr fun q hq => h q (by simp [hq])]

theorem pick_mem {f : Nat → Bool} {base j : Nat} {o : AObj} : ∀ {l : List (Nat × AObj)}, (∀ p ∈ l, p.1 = j → p.2 = o) → (j, o) ∈ l → f j = true → pick f base l (base + j) = some o
  | [], _, h, _ => by cases h
  | p :: l, hu, h, hf => by
    unfold pick
    by_cases hp : p.1 = j
    · rw [if_pos ⟨hp ▸ hf, by rw [hp]⟩, hu p (by simp) hp]
    · rw [if_neg (by rintro ⟨-, h2⟩; omega)]
      refine pick_mem (fun q hq => hu q (by simp [hq])) ?_ hf
      rcases List.mem_cons.1 h with rfl | h
      · exact absurd rfl hp
      · exact h

theorem heapAt_get (anc : Array Nat) (base : Nat) (H : AHeap) (acts : List Nat) (want : Nat → Bool) (m : Nat) : ∀ (l : List (Nat × AObj)),
    (heapAt anc base H acts want l).get m = match pick (fun j => want j && !absorbed anc acts j) base l m with | some o => some o | none => H.get m
  | [] => rfl
  | p :: l => by
    unfold heapAt pick
    have ih := heapAt_get anc base H acts want m l
    split
    · rename_i hc
      rw [AHeap.get_put]
      by_cases hm : m = base + p.1
      · rw [if_pos hm, if_pos ⟨hc, hm⟩]
      · rw [if_neg hm, if_neg (by rintro ⟨-, h⟩; exact hm h), ih]
    · rename_i hc
      rw [if_neg (by rintro ⟨h, -⟩; exact hc h), ih]

theorem heapAt_next (anc : Array Nat) (base : Nat) (H : AHeap) (acts : List Nat) (want : Nat → Bool) : ∀ (l : List (Nat × AObj)), (heapAt anc base H acts want l).next = H.next
  | [] => rfl
  | p :: l => by
    unfold heapAt
    split
    · rw [AHeap.next_put, heapAt_next anc base H acts want l]
    · exact heapAt_next anc base H acts want l

theorem heapAt_skip (anc : Array Nat) (base : Nat) (H : AHeap) (acts : List Nat) (want : Nat → Bool) (l : List (Nat × AObj)) : ∀ (L : List (Nat × AObj)), (∀ p ∈ L, want p.1 = false) →
    heapAt anc base H acts want (L ++ l) = heapAt anc base H acts want l
  | [], _ => rfl
  | p :: L, h => by
    have e : heapAt anc base H acts want (p :: L ++ l) = heapAt anc base H acts want (L ++ l) := by
      rw [List.cons_append, heapAt, if_neg (by rw [h p (by simp)]; simp)]
    rw [e]
    exact heapAt_skip anc base H acts want l L fun q hq => h q (by simp [hq])

/-! ### The steps of the one evaluation -/

inductive DStep (E : Env P) (G : Nat) (R : Recs) (ops : Array Oper) (anc : Array Nat) (base : Nat) (o : Oper) (i : Nat) (s : DState) : DState → Prop where
  | skip (hw : Region.wanted o (yielded ops s.a.tmps) = false) : DStep E G R ops anc base o i s { s with a := s.a.put o.dst undef }
  | calm (hw : Region.wanted o (yielded ops s.a.tmps) = true) (hok : o.op.operands.all (okOpd G) = true) (hk : kindOf o.op = .calm) (v : Value) (H' : AHeap)
      (h : aop E s.H s.a o = some (.val v H')) : DStep E G R ops anc base o i s { s with a := s.a.put o.dst v }
  | still (hw : Region.wanted o (yielded ops s.a.tmps) = true) (hok : o.op.operands.all (okOpd G) = true) (hk : kindOf o.op = .still) (v : Value) (H' : AHeap)
      (h : aop E (heapFor anc base i s) s.a o = some (.val v H')) : DStep E G R ops anc base o i s { s with a := s.a.put o.dst v, stills := if ordered ops anc i = true then s.stills else (i, o, s.a, v) :: s.stills }
  | fresh (hw : Region.wanted o (yielded ops s.a.tmps) = true) (hok : o.op.operands.all (okOpd G) = true) (hk : kindOf o.op = .fresh) (v : Value) (ob : AObj)
      (h : anew E s.a o (base + i) = some (v, ob)) : DStep E G R ops anc base o i s { s with a := s.a.put o.dst v, news := (i, ob) :: s.news }
  | acts (hw : Region.wanted o (yielded ops s.a.tmps) = true) (hok : o.op.operands.all (okOpd G) = true) (hk : kindOf o.op = .acts) (ho : ∀ q ∈ s.acts, (anc.getD i 0).testBit q = true) (v : Value) (H' : AHeap)
      (h : evOp E G R (heapFor anc base i s) s.a o = some (v, H')) : DStep E G R ops anc base o i s { s with a := s.a.put o.dst v, H := H', acts := i :: s.acts, hist := (H', i :: s.acts) :: s.hist }

theorem drawStep_cases {E : Env P} {G : Nat} {R : Recs} {ops : Array Oper} {anc : Array Nat} {base : Nat} {o : Oper} {i : Nat} {s s' : DState} (h : drawStep E G R ops anc base o i s = some s') : DStep E G R ops anc base o i s s' := by
  unfold drawStep at h
  split at h
  · rename_i hw
    split at h
    · rename_i hok
      split at h <;> rename_i hk
      · split at h
        · rename_i v H' ha; cases h; exact .calm hw hok hk v H' ha
        · cases h
      · split at h
        · rename_i v H' ha; cases h; exact .still hw hok hk v H' ha
        · cases h
      · split at h
        · rename_i v ob ha; cases h; exact .fresh hw hok hk v ob ha
        · cases h
      · split at h
        · rename_i ho
          split at h
          · rename_i v H' ha; cases h; exact .acts hw hok hk (fun q hq => List.all_eq_true.1 ho q hq) v H' ha
          · cases h
        · cases h
    · cases h
  · rename_i hw
    cases h
    exact .skip (by simpa using hw)

theorem drawGo_seq {E : Env P} {G : Nat} {R : Recs} {ops : Array Oper} {anc : Array Nat} {base : Nat} : ∀ {l : List Oper} {i : Nat} {s s' : DState}, drawGo E G R ops anc base l i s = some s' →
    ∃ st : Nat → DState, st i = s ∧ st (i + l.length) = s' ∧ ∀ k o, l[k]? = some o → DStep E G R ops anc base o (i + k) (st (i + k)) (st (i + k + 1))
  | [], i, s, s', h => by
    simp only [drawGo, Option.some.injEq] at h; subst h
    exact ⟨fun _ => s, rfl, rfl, fun k o hk => by simp at hk⟩
  | o :: l, i, s, s', h => by
    unfold drawGo at h
    split at h
    · rename_i s1 h1
      obtain ⟨st, h2, h3, h4⟩ := drawGo_seq h
      refine ⟨fun k => if k = i then s else st k, by simp, ?_, ?_⟩
      · have : i + (o :: l).length ≠ i := by simp
        dsimp only
        rw [if_neg this, ← h3]; congr 1; simp; omega
      · intro k o' hk
        cases k with
        | zero =>
          simp only [List.getElem?_cons_zero, Option.some.injEq] at hk; subst hk
          have h5 := drawStep_cases h1
          simpa [h2] using h5
        | succ k =>
          have h5 := h4 k o' (by simpa using hk)
          have e1 : i + (k + 1) = i + 1 + k := by omega
          dsimp only
          rw [e1, if_neg (by omega), if_neg (by omega)]
          exact h5
    · cases h
end
end Go.Ev
/- A region that draws its order: the sequence of the one evaluation, and what holds after any part of the operations. -/
namespace Go.Ev
noncomputable section
variable {P : Program}

theorem heapAt_congr (anc : Array Nat) (base : Nat) (H : AHeap) (acts : List Nat) {f g : Nat → Bool} : ∀ {l : List (Nat × AObj)}, (∀ p ∈ l, f p.1 = g p.1) → heapAt anc base H acts f l = heapAt anc base H acts g l
  | [], _ => rfl
  | p :: l, h => by
    unfold heapAt
    rw [h p (by simp), heapAt_congr anc base H acts fun q hq => h q (by simp [hq])]

theorem put_getD (a : Act) (t : Tmp) (d : Option Tmp) (v : Value) (h : d ≠ some t) : (a.put d v).tmps.getD t undef = a.tmps.getD t undef := by
  cases d with
  | none => rfl
  | some d =>
    have hne : d ≠ t := fun e => h (by rw [e])
    simp [Act.put, Array.getD_eq_getD_getElem?, hne]

theorem put_getD_same (a : Act) (t : Tmp) (v : Value) : (a.put (some t) v).tmps.getD t undef = if t < a.tmps.size then v else undef := by
  by_cases h : t < a.tmps.size
  · simp [Act.put, Array.getD_eq_getD_getElem?, h]
  · simp [Act.put, Array.getD_eq_getD_getElem?, h]

theorem put_size (a : Act) (d : Option Tmp) (v : Value) : (a.put d v).tmps.size = a.tmps.size := by
  cases d <;> simp [Act.put]

theorem put_defers (a : Act) (d : Option Tmp) (v : Value) : (a.put d v).defers = a.defers := by
  cases d <;> rfl

theorem step_grow {E : Env P} {G : Nat} {R : Recs} {ops : Array Oper} {anc : Array Nat} {base : Nat} {o : Oper} {i : Nat} {s s' : DState} (h : DStep E G R ops anc base o i s s') :
    ∃ La Ln Ls v, s'.acts = La ++ s.acts ∧ (∀ q ∈ La, q = i) ∧ s'.news = Ln ++ s.news ∧ (∀ p ∈ Ln, p.1 = i) ∧ s'.stills = Ls ++ s.stills ∧ (La = [] → s'.H = s.H) ∧
      (∀ x ∈ s.hist, x ∈ s'.hist) ∧ s'.a = s.a.put o.dst v ∧ ((s.H, s.acts) ∈ s.hist → (s'.H, s'.acts) ∈ s'.hist) ∧ (i ∈ La → ∀ q ∈ s.acts, (anc.getD i 0).testBit q = true) := by
  cases h with
  | skip hw => exact ⟨[], [], [], undef, rfl, by simp, rfl, by simp, rfl, fun _ => rfl, fun _ h => h, rfl, id, by simp⟩
  | calm hw hok hk v H' h => exact ⟨[], [], [], v, rfl, by simp, rfl, by simp, rfl, fun _ => rfl, fun _ h => h, rfl, id, by simp⟩
  | still hw hok hk v H' h =>
    refine ⟨[], [], if ordered ops anc i = true then [] else [(i, o, s.a, v)], v, rfl, by simp, rfl, by simp, ?_, fun _ => rfl, fun _ h => h, rfl, id, by simp⟩
    dsimp only
    split <;> rfl
  | fresh hw hok hk v ob h => exact ⟨[], [(i, ob)], [], v, rfl, by simp, rfl, by simp, rfl, fun _ => rfl, fun _ h => h, rfl, id, by simp⟩
  | acts hw hok hk ho v H' h => exact ⟨[i], [], [], v, rfl, by simp, rfl, by simp, rfl, by simp, fun _ h => by simp [h], rfl, fun _ => by simp, fun _ => ho⟩

section seq
variable {E : Env P} {G : Nat} {R : Recs} {ops : Array Oper} {anc : Array Nat} {base : Nat} {st : Nat → DState}
  (hst : ∀ i o, ops[i]? = some o → DStep E G R ops anc base o i (st i) (st (i + 1)))
include hst

theorem seq_grow : ∀ (d i : Nat), i + d ≤ ops.size → ∃ La Ln Ls, (st (i + d)).acts = La ++ (st i).acts ∧ (∀ q ∈ La, i ≤ q ∧ q < i + d) ∧ (st (i + d)).news = Ln ++ (st i).news ∧ (∀ p ∈ Ln, i ≤ p.1 ∧ p.1 < i + d) ∧
    (st (i + d)).stills = Ls ++ (st i).stills ∧ (La = [] → (st (i + d)).H = (st i).H) ∧ (∀ x ∈ (st i).hist, x ∈ (st (i + d)).hist) ∧ (st (i + d)).a.defers = (st i).a.defers ∧ (st (i + d)).a.tmps.size = (st i).a.tmps.size ∧
    (((st i).H, (st i).acts) ∈ (st i).hist → ((st (i + d)).H, (st (i + d)).acts) ∈ (st (i + d)).hist) := by
  intro d
  induction d with
  | zero => intro i _; exact ⟨[], [], [], rfl, by simp, rfl, by simp, rfl, fun _ => rfl, fun _ h => h, rfl, rfl, id⟩
  | succ d ih =>
    intro i hi
    obtain ⟨La, Ln, Ls, a1, a2, a3, a4, a5, a6, a7, a8, a9, a10⟩ := ih i (by omega)
    have hlt : i + d < ops.size := by omega
    have hget : ops[i + d]? = some ops[i + d] := Array.getElem?_eq_getElem hlt
    obtain ⟨La', Ln', Ls', v, b1, b2, b3, b4, b5, b6, b7, b8, b9, b10⟩ := step_grow (hst (i + d) _ hget)
    have e : i + (d + 1) = i + d + 1 := rfl
    rw [e]
    refine ⟨La' ++ La, Ln' ++ Ln, Ls' ++ Ls, by rw [b1, a1, List.append_assoc], ?_, by rw [b3, a3, List.append_assoc], ?_, by rw [b5, a5, List.append_assoc], ?_, fun x hx => b7 x (a7 x hx), ?_, ?_, fun h => b9 (a10 h)⟩
    · intro q hq
      rcases List.mem_append.1 hq with h | h
      · have := b2 q h; omega
      · have := a2 q h; omega
    · intro p hp
      rcases List.mem_append.1 hp with h | h
      · have := b4 p h; omega
      · have := a4 p h; omega
    · intro h
      obtain ⟨h1, h2⟩ := List.append_eq_nil_iff.1 h
      rw [b6 h1, a6 h2]
    · rw [b8, put_defers, a8]
    · rw [b8, put_size, a9]

variable (hacts0 : (st 0).acts = []) (hnews0 : (st 0).news = []) (hhist0 : ((st 0).H, (st 0).acts) ∈ (st 0).hist)

theorem seq_defers {i : Nat} (hi : i ≤ ops.size) : (st i).a.defers = (st 0).a.defers := by
  obtain ⟨La, Ln, Ls, a1, a2, a3, a4, a5, a6, a7, a8, a9, a10⟩ := seq_grow hst i 0 (by omega)
  rw [Nat.zero_add] at a8; exact a8

theorem seq_size {i : Nat} (hi : i ≤ ops.size) : (st i).a.tmps.size = (st 0).a.tmps.size := by
  obtain ⟨La, Ln, Ls, a1, a2, a3, a4, a5, a6, a7, a8, a9, a10⟩ := seq_grow hst i 0 (by omega)
  rw [Nat.zero_add] at a9; exact a9

include hacts0 in
theorem seq_acts_lt {i : Nat} (hi : i ≤ ops.size) : ∀ q ∈ (st i).acts, q < i := by
  obtain ⟨La, Ln, Ls, a1, a2, a3, a4, a5, a6, a7, a8, a9, a10⟩ := seq_grow hst i 0 (by omega)
  rw [Nat.zero_add, hacts0, List.append_nil] at a1
  intro q hq
  rw [a1] at hq
  have := a2 q hq; omega

include hnews0 in
theorem seq_news_lt {i : Nat} (hi : i ≤ ops.size) : ∀ p ∈ (st i).news, p.1 < i := by
  obtain ⟨La, Ln, Ls, a1, a2, a3, a4, a5, a6, a7, a8, a9, a10⟩ := seq_grow hst i 0 (by omega)
  rw [Nat.zero_add, hnews0, List.append_nil] at a3
  intro p hp
  rw [a3] at hp
  have := a4 p hp; omega

theorem seq_to {i j : Nat} (h : i ≤ j) (hj : j ≤ ops.size) : ∃ La Ln Ls, (st j).acts = La ++ (st i).acts ∧ (∀ q ∈ La, i ≤ q ∧ q < j) ∧ (st j).news = Ln ++ (st i).news ∧ (∀ p ∈ Ln, i ≤ p.1 ∧ p.1 < j) ∧
    (st j).stills = Ls ++ (st i).stills ∧ (La = [] → (st j).H = (st i).H) ∧ (∀ x ∈ (st i).hist, x ∈ (st j).hist) := by
  obtain ⟨d, rfl⟩ := Nat.exists_eq_add_of_le h
  obtain ⟨La, Ln, Ls, a1, a2, a3, a4, a5, a6, a7, a8, a9, a10⟩ := seq_grow hst d i hj
  exact ⟨La, Ln, Ls, a1, a2, a3, a4, a5, a6, a7⟩

/-- An acting operation of the whole, before i, is one of the part up to i. -/
theorem acts_before {i q : Nat} (hi : i ≤ ops.size) (hq : q ∈ (st ops.size).acts) (hlt : q < i) : q ∈ (st i).acts := by
  obtain ⟨La, Ln, Ls, a1, a2, -⟩ := seq_to hst hi (Nat.le_refl _)
  rw [a1] at hq
  rcases List.mem_append.1 hq with h | h
  · have := a2 q h; omega
  · exact h

theorem acts_sub {i q : Nat} (hi : i ≤ ops.size) (hq : q ∈ (st i).acts) : q ∈ (st ops.size).acts := by
  obtain ⟨La, Ln, Ls, a1, a2, -⟩ := seq_to hst hi (Nat.le_refl _)
  rw [a1]; exact List.mem_append_right _ hq

/-- Between two points with the same acting operations before them, memory is the same. -/
theorem seq_same {i j : Nat} (hi : i ≤ ops.size) (hj : j ≤ ops.size) (h : ∀ q ∈ (st ops.size).acts, q < i ↔ q < j) : (st i).H = (st j).H ∧ (st i).acts = (st j).acts := by
  have key : ∀ {i j : Nat}, i ≤ j → j ≤ ops.size → (∀ q ∈ (st ops.size).acts, q < i ↔ q < j) → (st i).H = (st j).H ∧ (st i).acts = (st j).acts := by
    intro i j hij hj h
    obtain ⟨La, Ln, Ls, a1, a2, a3, a4, a5, a6, a7⟩ := seq_to hst hij hj
    have hnil : La = [] := by
      cases La with
      | nil => rfl
      | cons q l =>
        have h1 := a2 q (by simp)
        have h2 := acts_sub hst hj (q := q) (by rw [a1]; simp)
        have := (h q h2).2 h1.2
        omega
    exact ⟨(a6 hnil).symm, by rw [a1, hnil]; rfl⟩
  rcases Nat.le_total i j with hij | hij
  · exact key hij hj h
  · have := key hij hi fun q hq => (h q hq).symm
    exact ⟨this.1.symm, this.2.symm⟩

include hhist0 in
theorem seq_hist {i : Nat} (hi : i ≤ ops.size) : ((st i).H, (st i).acts) ∈ (st ops.size).hist := by
  obtain ⟨La, Ln, Ls, a1, a2, a3, a4, a5, a6, a7, a8, a9, a10⟩ := seq_grow hst i 0 (by omega)
  rw [Nat.zero_add] at a10
  obtain ⟨La, Ln, Ls, -, -, -, -, -, -, b7⟩ := seq_to hst hi (Nat.le_refl _)
  exact b7 _ (a10 hhist0)

include hnews0 in
/-- One object for each name. -/
theorem news_once : ∀ {i : Nat}, i ≤ ops.size → ∀ p ∈ (st i).news, ∀ p' ∈ (st i).news, p.1 = p'.1 → p = p' := by
  intro i
  induction i with
  | zero => intro _ p hp; rw [hnews0] at hp; cases hp
  | succ i ih =>
    intro hi p hp p' hp' he
    have hget : ops[i]? = some ops[i] := Array.getElem?_eq_getElem (by omega)
    have hlt := seq_news_lt hst hnews0 (i := i) (by omega)
    have hd := hst i _ hget
    generalize hs : st (i + 1) = s' at hd hp hp'
    have base0 : s'.news = (st i).news → p = p' := fun e => ih (by omega) p (e ▸ hp) p' (e ▸ hp') he
    cases hd with
    | skip => exact base0 rfl
    | calm => exact base0 rfl
    | still => exact base0 rfl
    | acts => exact base0 rfl
    | fresh hw hok hk v ob h =>
      simp only [List.mem_cons] at hp hp'
      rcases hp with rfl | hp <;> rcases hp' with rfl | hp'
      · rfl
      · have := hlt p' hp'; simp at he; omega
      · have := hlt p hp; simp at he; omega
      · exact ih (by omega) p hp p' hp' he

/-- What a temporary holds does not turn while none writes it. -/
theorem seq_tmp {t : Tmp} : ∀ (d i : Nat), i + d ≤ ops.size → (∀ k o, i ≤ k → k < i + d → ops[k]? = some o → o.dst ≠ some t) → (st (i + d)).a.tmps.getD t undef = (st i).a.tmps.getD t undef := by
  intro d
  induction d with
  | zero => intro i _ _; rfl
  | succ d ih =>
    intro i hi hno
    have hlt : i + d < ops.size := by omega
    have hget : ops[i + d]? = some ops[i + d] := Array.getElem?_eq_getElem hlt
    obtain ⟨La', Ln', Ls', v, b1, b2, b3, b4, b5, b6, b7, b8, b9, b10⟩ := step_grow (hst (i + d) _ hget)
    have e : i + (d + 1) = i + d + 1 := rfl
    rw [e, b8, put_getD _ _ _ _ (hno (i + d) _ (by omega) (by omega) hget)]
    exact ih i (by omega) fun k o h1 h2 => hno k o h1 (by omega)
end seq
end
end Go.Ev
/- A region that draws its order: the one evaluation is right for every order. -/
namespace Go.Ev
noncomputable section
variable {P : Program}

/-- What the text of a region is like. -/
structure Drawable (ops : Array Oper) : Prop where
  back : ∀ i o, ops[i]? = some o → ∀ e ∈ o.after.toList, Region.binds .any e = true → e.on < i
  guard : ∀ i o j w, ops[i]? = some o → o.guard = some (j, w) → ((ancOf ops).getD i 0).testBit j = true ∧ ∀ t, (ops[j]?).bind (·.dst) = some t → ∀ k p, ops[k]? = some p → p.dst = some t → k = j
  writer : ∀ i o k p t, ops[i]? = some o → ops[k]? = some p → p.dst = some t → t ∈ namesOf o → k = i ∨ ((ancOf ops).getD i 0).testBit k = true ∨ ((ancOf ops).getD k 0).testBit i = true

theorem mem_zipIdx {ops : Array Oper} {i : Nat} {o : Oper} (h : ops[i]? = some o) : (o, i) ∈ ops.toList.zipIdx := by
  rw [List.mem_zipIdx_iff_getElem?]
  simpa using h

theorem drawable_ok {ops : Array Oper} (h : drawable ops = true) : Drawable ops := by
  unfold drawable at h
  have hall : ∀ i o, ops[i]? = some o → _ := fun i o ho => List.all_eq_true.1 h (o, i) (mem_zipIdx ho)
  refine ⟨?_, ?_, ?_⟩
  · intro i o ho e he hb
    have h1 := hall i o ho
    simp only [Bool.and_eq_true] at h1
    have := List.all_eq_true.1 h1.1.1 e he
    simpa [hb] using this
  · intro i o j w ho hg
    have h1 := hall i o ho
    simp only [Bool.and_eq_true] at h1
    have h2 := h1.1.2
    rw [hg] at h2
    simp only [Bool.and_eq_true] at h2
    refine ⟨h2.1, ?_⟩
    intro t ht k p hk hp
    have h3 := h2.2
    rw [ht] at h3
    have h4 := List.all_eq_true.1 h3 (p, k) (mem_zipIdx hk)
    simp only [Bool.or_eq_true, beq_iff_eq, bne_iff_ne, ne_eq] at h4
    rcases h4 with h4 | h4
    · exact h4
    · exact absurd hp h4
  · intro i o k p t ho hk hp ht
    have h1 := hall i o ho
    simp only [Bool.and_eq_true] at h1
    have h4 := List.all_eq_true.1 h1.2 (p, k) (mem_zipIdx hk)
    simp only [hp] at h4
    simp only [Bool.or_eq_true, beq_iff_eq, Bool.not_eq_true', List.contains_eq_mem] at h4
    rcases h4 with ((h4 | h4) | h4) | h4
    · exact .inl h4
    · simp [ht] at h4
    · exact .inr (.inl h4)
    · exact .inr (.inr h4)

theorem dst_named {o : Oper} {t : Tmp} (h : o.dst = some t) : t ∈ namesOf o := by simp [namesOf, h]
theorem opd_named {o : Oper} {t : Tmp} (h : Operand.tmp t ∈ o.op.operands) : t ∈ namesOf o := by
  simp only [namesOf, List.mem_append, List.mem_filterMap]
  exact .inr ⟨.tmp t, by simpa using h, rfl⟩

/-- The memory at a time, with the objects made so far that no acting operation has been handed. -/
def hp (anc : Array Nat) (base : Nat) (s fin : DState) (S : Nat → Bool) : AHeap := heapAt anc base s.H s.acts S fin.news

structure Inv (G : Nat) (ops : Array Oper) (base : Nat) (st : Nat → DState) (ν₀ : Ren) (H₀ : AHeap) (w₀ : World) (d₀ : List Deferred) (S : Nat → Bool) (ν : Ren) (p : Nat) (b : Act) (w : World) : Prop where
  le : p ≤ ops.size
  room : base + ops.size ≤ (st p).H.next
  acts : ∀ q ∈ (st ops.size).acts, S q = true ↔ q < p
  rel : HRel G ν (hp (ancOf ops) base (st p) (st ops.size) S) w
  later : Later ν₀ H₀ w₀ ν (hp (ancOf ops) base (st p) (st ops.size) S) w
  kept : ∀ j, j < ops.size → S j = false → ν (base + j) = none
  tmps : ∀ t i, i ≤ ops.size → (∀ k o, ops[k]? = some o → o.dst = some t → (S k = true ↔ k < i)) → VRel ν ((st i).a.tmps.getD t undef) (b.tmps.getD t undef)
  defers : DRel ν d₀ b.defers
  size : b.tmps.size = (st 0).a.tmps.size
  news : ∀ x ∈ (st ops.size).news, S x.1 = true → x.2.live = true ∧ x.2.olds = []
  down : ∀ i o, ops[i]? = some o → S i = true → ∀ e ∈ o.after.toList, Region.binds .any e = true → S e.on = true

def mark (S : Nat → Bool) (i : Nat) : Nat → Bool := fun j => if j = i then true else S j

theorem mark_same (S : Nat → Bool) (i : Nat) : mark S i i = true := by simp [mark]
theorem mark_other {S : Nat → Bool} {i j : Nat} (h : j ≠ i) : mark S i j = S j := by simp [mark, h]

section main
variable {E : Env P} {G : Nat} {R : Recs} {ops : Array Oper} {base : Nat} {st : Nat → DState}
  (hst : ∀ i o, ops[i]? = some o → DStep E G R ops (ancOf ops) base o i (st i) (st (i + 1))) (hD : Drawable ops)
  {ν₀ : Ren} {H₀ : AHeap} {w₀ : World} {d₀ : List Deferred}
include hst hD

/-- The temporaries that an operation names hold what the one evaluation says. -/
theorem Inv.named {S : Nat → Bool} {ν : Ren} {p : Nat} {b : Act} {w : World} (hI : Inv G ops base st ν₀ H₀ w₀ d₀ S ν p b w) {i : Nat} {o : Oper} (ho : ops[i]? = some o) (hi : S i = false)
    (hr : ∀ e ∈ o.after.toList, Region.binds .any e = true → S e.on = true) {t : Tmp} (ht : t ∈ namesOf o) : VRel ν ((st i).a.tmps.getD t undef) (b.tmps.getD t undef) := by
  have hin : i < ops.size := (Array.getElem?_eq_some_iff.1 ho).1
  refine hI.tmps t i (by omega) fun k o' hk hd => ?_
  rcases hD.writer i o k o' t ho hk hd ht with rfl | h | h
  · rw [hi]; simp
  · have h1 : S k = true := anc_ready (S := fun j => S j = true) hD.back hI.down ho hr k h
    have h2 := anc_lt hD.back i k h
    simp [h1, h2]
  · have h2 := anc_lt hD.back k i h
    have h1 : S k = false := by
      cases hs : S k with
      | false => rfl
      | true =>
        have := anc_closed (S := fun j => S j = true) hD.back hI.down k i hs h
        rw [hi] at this; cases this
    rw [h1]; simp; omega

theorem Inv.operand {S : Nat → Bool} {ν : Ren} {p : Nat} {b : Act} {w : World} (hI : Inv G ops base st ν₀ H₀ w₀ d₀ S ν p b w) {i : Nat} {o : Oper} (ho : ops[i]? = some o) (hi : S i = false)
    (hr : ∀ e ∈ o.after.toList, Region.binds .any e = true → S e.on = true) : ∀ x ∈ o.op.operands, okOpd G x = true → VRel ν ((st i).a.eval x) (b.eval x) := by
  intro x hx hok
  cases x with
  | tmp t => exact hI.named hst hD ho hi hr (opd_named hx)
  | const v => exact eval_rel hI.rel (a := ⟨#[], []⟩) (b := ⟨#[], []⟩) ⟨ARel.empty ν, trivial⟩ hok
  | global g => exact eval_rel hI.rel (a := ⟨#[], []⟩) (b := ⟨#[], []⟩) ⟨ARel.empty ν, trivial⟩ hok
  | func f => exact eval_rel hI.rel (a := ⟨#[], []⟩) (b := ⟨#[], []⟩) ⟨ARel.empty ν, trivial⟩ hok

theorem yielded_same {ν : Ren} {a b : Array Value} (hs : a.size = b.size) {j : Nat} (h : ∀ t, (ops[j]?).bind (·.dst) = some t → VRel ν (a.getD t undef) (b.getD t undef)) : yielded ops a j = yielded ops b j := by
  unfold yielded
  cases ht : (ops[j]?).bind (·.dst) with
  | none => rfl
  | some t =>
    have h1 := h t ht
    simp only [Option.bind_some]
    by_cases hlt : t < a.size
    · have hlt' : t < b.size := hs ▸ hlt
      simp only [Array.getElem?_eq_getElem hlt, Array.getElem?_eq_getElem hlt']
      simp only [Array.getD_eq_getD_getElem?, Array.getElem?_eq_getElem hlt, Array.getElem?_eq_getElem hlt', Option.getD_some] at h1
      generalize a[t] = x at h1
      generalize b[t] = y at h1
      cases h1 <;> rfl
    · have hlt' : ¬ t < b.size := hs ▸ hlt
      simp only [Array.getElem?_eq_none (Nat.le_of_not_lt hlt), Array.getElem?_eq_none (Nat.le_of_not_lt hlt')]

theorem Inv.wanted {S : Nat → Bool} {ν : Ren} {p : Nat} {b : Act} {w : World} (hI : Inv G ops base st ν₀ H₀ w₀ d₀ S ν p b w) {i : Nat} {o : Oper} (ho : ops[i]? = some o)
    (hr : ∀ e ∈ o.after.toList, Region.binds .any e = true → S e.on = true) : Region.wanted o (yielded ops b.tmps) = Region.wanted o (yielded ops (st i).a.tmps) := by
  have hin : i < ops.size := (Array.getElem?_eq_some_iff.1 ho).1
  unfold Region.wanted
  cases hg : o.guard with
  | none => rfl
  | some g =>
    obtain ⟨j, want⟩ := g
    obtain ⟨h1, h2⟩ := hD.guard i o j want ho hg
    have h3 : S j = true := anc_ready (S := fun j => S j = true) hD.back hI.down ho hr j h1
    have h4 := anc_lt hD.back i j h1
    have : yielded ops (st i).a.tmps j = yielded ops b.tmps j := by
      refine yielded_same (E := E) (G := G) (R := R) (base := base) (st := st) hst hD (ν := ν) (by rw [seq_size hst (by omega), hI.size]) fun t ht => ?_
      refine hI.tmps t i (by omega) fun k o' hk hd => ?_
      obtain rfl := h2 t ht k o' hk hd
      simp [h3, h4]
    simp only [this]

/-- After one more operation. -/
theorem Inv.next {S : Nat → Bool} {ν : Ren} {p : Nat} {b : Act} {w : World} (hI : Inv G ops base st ν₀ H₀ w₀ d₀ S ν p b w) {i : Nat} {o : Oper} (ho : ops[i]? = some o) (hi : S i = false)
    (hr : ∀ e ∈ o.after.toList, Region.binds .any e = true → S e.on = true) {ν' : Ren} {p' : Nat} {w' : World} {v v' : Value} (hs : (st (i + 1)).a = (st i).a.put o.dst v) (he : ExtTo ν ν') (hv : VRel ν' v v')
    (hle : p' ≤ ops.size) (hroom : base + ops.size ≤ (st p').H.next) (hacts : ∀ q ∈ (st ops.size).acts, mark S i q = true ↔ q < p') (hrel : HRel G ν' (hp (ancOf ops) base (st p') (st ops.size) (mark S i)) w')
    (hl : Later ν₀ H₀ w₀ ν' (hp (ancOf ops) base (st p') (st ops.size) (mark S i)) w') (hkept : ∀ j, j < ops.size → mark S i j = false → ν' (base + j) = none)
    (hnews : ∀ x ∈ (st ops.size).news, x.1 = i → x.2.live = true ∧ x.2.olds = []) : Inv G ops base st ν₀ H₀ w₀ d₀ (mark S i) ν' p' (b.put o.dst v') w' := by
  have hin : i < ops.size := (Array.getElem?_eq_some_iff.1 ho).1
  refine ⟨hle, hroom, hacts, hrel, hl, hkept, ?_, by rw [put_defers]; exact hI.defers.ext he, by rw [put_size]; exact hI.size, ?_, ?_⟩
  · intro t i2 hi2 hw
    by_cases hd : o.dst = some t
    · have hlt : i < i2 := (hw i o ho hd).1 (mark_same S i)
      obtain ⟨d, rfl⟩ := Nat.exists_eq_add_of_le (show i + 1 ≤ i2 from hlt)
      have hno : ∀ k o', i + 1 ≤ k → k < i + 1 + d → ops[k]? = some o' → o'.dst ≠ some t := by
        intro k o' h1 h2 hk hd'
        have hsk := (hw k o' hk hd').2 h2
        rw [mark_other (by omega)] at hsk
        rcases hD.writer k o' i o t hk ho hd (dst_named hd') with h | h | h
        · omega
        · have := anc_closed (S := fun j => S j = true) hD.back hI.down k i hsk h
          rw [hi] at this; cases this
        · have := anc_lt hD.back i k h; omega
      rw [seq_tmp hst d (i + 1) hi2 hno, hs, hd, put_getD_same, put_getD_same, seq_size hst (by omega), hI.size]
      split
      · exact hv
      · exact VRel.und ν'
    · rw [put_getD _ _ _ _ hd]
      refine (hI.tmps t i2 hi2 fun k o' hk hd' => ?_).ext he
      have hne : k ≠ i := by intro e; subst e; rw [ho] at hk; cases hk; exact hd hd'
      rw [← hw k o' hk hd', mark_other hne]
  · intro x hx hsx
    by_cases hxi : x.1 = i
    · exact hnews x hx hxi
    · exact hI.news x hx (by rwa [mark_other hxi] at hsx)
  · intro k o' hk hsk e he' hb
    by_cases hki : k = i
    · subst hki
      rw [ho] at hk; cases hk
      have := hr e he' hb
      by_cases hei : e.on = k
      · rw [hei]; exact mark_same S k
      · rw [mark_other hei]; exact this
    · rw [mark_other hki] at hsk
      have := hI.down k o' hk hsk e he' hb
      by_cases hei : e.on = i
      · rw [hei]; exact mark_same S i
      · rw [mark_other hei]; exact this
end main
end
end Go.Ev
/- A region that draws its order: one more operation, whichever. -/
namespace Go.Ev
noncomputable section
variable {P : Program}

theorem pick_congr_at {f g : Nat → Bool} {base m : Nat} : ∀ {l : List (Nat × AObj)}, (∀ x ∈ l, m = base + x.1 → f x.1 = g x.1) → pick f base l m = pick g base l m
  | [], _ => rfl
  | p :: l, h => by
    unfold pick
    rw [pick_congr_at fun q hq => h q (by simp [hq])]
    by_cases hm : m = base + p.1
    · rw [h p (by simp) hm]
    · rw [if_neg (fun h => hm h.2), if_neg (fun h => hm h.2)]

theorem pick_none_of {f : Nat → Bool} {base m : Nat} : ∀ {l : List (Nat × AObj)}, pick f base l m = none → ∀ x ∈ l, m = base + x.1 → f x.1 = false
  | [], _, _, hx, _ => by cases hx
  | p :: l, h, x, hx, hm => by
    unfold pick at h
    split at h
    · cases h
    · rename_i hc
      rcases List.mem_cons.1 hx with rfl | hx
      · cases hf : f x.1 with
        | false => rfl
        | true => exact absurd ⟨hf, hm⟩ hc
      · exact pick_none_of h x hx hm

theorem over_pick {l : List (Nat × AObj)} {base : Nat} (hu : ∀ p ∈ l, ∀ p' ∈ l, p.1 = p'.1 → p = p') {fB fK fX : Nat → Bool} {K B H : AHeap} (hn : B.next = K.next)
    (hK : ∀ m, K.get m = match pick fK base l m with | some o => some o | none => H.get m) (hB : ∀ m, B.get m = match pick fB base l m with | some o => some o | none => H.get m)
    (h : ∀ x ∈ l, fB x.1 = (fX x.1 || fK x.1)) : Over (pick fX base l) K B := by
  refine ⟨hn, ?_, ?_⟩
  · intro m o hm
    obtain ⟨j, h1, rfl, h2⟩ := pick_some hm
    rw [hB, pick_mem (o := o) (fun p hp e => congrArg Prod.snd (hu p hp (j, o) h1 e)) h1 (by have := h (j, o) h1; rw [this, h2]; rfl)]
  · intro m hm
    rw [hB, hK, pick_congr_at (g := fK) fun x hx e => by rw [h x hx, pick_none_of hm x hx e]; rfl]

theorem absorbed_cons (anc : Array Nat) (i : Nat) (acts : List Nat) (j : Nat) : absorbed anc (i :: acts) j = ((anc.getD i 0).testBit j || absorbed anc acts j) := rfl

theorem absorbed_true {anc : Array Nat} {acts : List Nat} {j : Nat} : absorbed anc acts j = true ↔ ∃ q ∈ acts, (anc.getD q 0).testBit j = true := by
  simp [absorbed]

section main
variable {E : Env P} {G : Nat} {R : Recs} {ops : Array Oper} {base : Nat} {st : Nat → DState}
  (hst : ∀ i o, ops[i]? = some o → DStep E G R ops (ancOf ops) base o i (st i) (st (i + 1))) (hD : Drawable ops)
  {ν₀ : Ren} {H₀ : AHeap} {w₀ : World} {d₀ : List Deferred}
  (hacts0 : (st 0).acts = []) (hnews0 : (st 0).news = []) (hhist0 : ((st 0).H, (st 0).acts) ∈ (st 0).hist)

include hst hacts0 in
theorem acts_op {q : Nat} (hq : q ∈ (st ops.size).acts) : ∃ o, ops[q]? = some o ∧ kindOf o.op = .acts ∧ ∀ q' ∈ (st q).acts, ((ancOf ops).getD q 0).testBit q' = true := by
  have hlt := seq_acts_lt hst hacts0 (Nat.le_refl _) q hq
  have hget : ops[q]? = some ops[q] := Array.getElem?_eq_getElem hlt
  have h1 := acts_before hst (i := q + 1) (by omega) hq (by omega)
  have h2 := seq_acts_lt hst hacts0 (i := q) (by omega)
  have no : (st (q + 1)).acts = (st q).acts → False := fun e => by have := h2 q (e ▸ h1); omega
  have hd := hst q _ hget
  generalize hs : st (q + 1) = s' at hd no
  cases hd with
  | skip => exact (no rfl).elim
  | calm => exact (no rfl).elim
  | still => exact (no rfl).elim
  | fresh => exact (no rfl).elim
  | acts hw hok hk ho v H' h => exact ⟨_, hget, hk, ho⟩

include hst hacts0 in
theorem not_acting {i : Nat} (hi : i < ops.size) (h : (st (i + 1)).acts = (st i).acts) : i ∉ (st ops.size).acts := by
  intro hq
  have h1 := acts_before hst (i := i + 1) (by omega) hq (by omega)
  have := seq_acts_lt hst hacts0 (i := i) (by omega) i (h ▸ h1)
  omega

include hst hnews0 in
theorem not_new {i : Nat} (hi : i < ops.size) (h : (st (i + 1)).news = (st i).news) : ∀ x ∈ (st ops.size).news, x.1 ≠ i := by
  intro x hx
  obtain ⟨La, Ln, Ls, -, -, a3, a4, -⟩ := seq_to hst (i := i + 1) (j := ops.size) (by omega) (Nat.le_refl _)
  rw [a3] at hx
  rcases List.mem_append.1 hx with hx | hx
  · have := a4 x hx; omega
  · have := seq_news_lt hst hnews0 (i := i) (by omega) x (h ▸ hx); omega

theorem mark_acts {S : Nat → Bool} {i p : Nat} {acts : List Nat} (hn : i ∉ acts) (h : ∀ q ∈ acts, S q = true ↔ q < p) : ∀ q ∈ acts, mark S i q = true ↔ q < p := by
  intro q hq
  have hne : q ≠ i := by intro e; subst e; exact hn hq
  rw [mark_other hne]
  exact h q hq

theorem hp_mark {anc : Array Nat} {s fin : DState} {S : Nat → Bool} {i : Nat} (h : ∀ x ∈ fin.news, x.1 ≠ i) : hp anc base s fin (mark S i) = hp anc base s fin S :=
  heapAt_congr anc base s.H s.acts fun x hx => mark_other (h x hx)

variable (hclean : ∀ x ∈ (st ops.size).news, ∀ h ∈ (st ops.size).hist, absorbed (ancOf ops) h.2 x.1 = true ∨ h.1.get (base + x.1) = none)

section one
variable {S : Nat → Bool} {ν : Ren} {p : Nat} {b : Act} {w : World} (hI : Inv G ops base st ν₀ H₀ w₀ d₀ S ν p b w) {i : Nat} {o : Oper} (ho : ops[i]? = some o) (hi : S i = false)
    (hr : ∀ e ∈ o.after.toList, Region.binds .any e = true → S e.on = true)

/-- The memory that an operation counts on, at this time. -/
def now (ops : Array Oper) (base : Nat) (st : Nat → DState) (p i : Nat) : AHeap := heapAt (ancOf ops) base (st p).H (st p).acts (fun j => ((ancOf ops).getD i 0).testBit j) (st ops.size).news

/-- The objects beside it. -/
def beside (ops : Array Oper) (base : Nat) (st : Nat → DState) (S : Nat → Bool) (p i : Nat) : Nat → Option AObj :=
  pick (fun j => S j && !absorbed (ancOf ops) (st p).acts j && !((ancOf ops).getD i 0).testBit j) base (st ops.size).news

include hst hD hnews0 hhist0 hclean hI ho hr

theorem now_over : Over (beside ops base st S p i) (now ops base st p i) (hp (ancOf ops) base (st p) (st ops.size) S) ∧
    (∀ n ob, beside ops base st S p i n = some ob → (now ops base st p i).get n = none ∧ n < (now ops base st p i).next ∧ ob.live = true ∧ ob.olds = []) ∧
    HRel G ν (now ops base st p i) w := by
  have hanc : ∀ j, ((ancOf ops).getD i 0).testBit j = true → S j = true := fun j h => anc_ready (S := fun j => S j = true) hD.back hI.down ho hr j h
  have hu := news_once hst hnews0 (Nat.le_refl ops.size)
  have hov : Over (beside ops base st S p i) (now ops base st p i) (hp (ancOf ops) base (st p) (st ops.size) S) := by
    refine over_pick hu (by rw [hp, now, heapAt_next, heapAt_next]) (H := (st p).H) (heapAt_get _ _ _ _ _ · _) (heapAt_get _ _ _ _ _ · _) ?_
    intro x hx
    cases ha : ((ancOf ops).getD i 0).testBit x.1 with
    | false => simp
    | true => simp [hanc x.1 ha]
  have hX : ∀ n ob, beside ops base st S p i n = some ob → (now ops base st p i).get n = none ∧ n < (now ops base st p i).next ∧ ob.live = true ∧ ob.olds = [] := by
    intro n ob hn
    obtain ⟨j, h1, rfl, h2⟩ := pick_some hn
    simp only [Bool.and_eq_true, Bool.not_eq_true'] at h2
    obtain ⟨⟨h3, h4⟩, h5⟩ := h2
    have hj := seq_news_lt hst hnews0 (Nat.le_refl _) _ h1
    have hroom := hI.room
    refine ⟨?_, by rw [now, heapAt_next]; simp at hj; omega, hI.news _ h1 h3⟩
    have e : (now ops base st p i).get (base + j) = (st p).H.get (base + j) := by
      rw [now, heapAt_get, pick_none]
      intro x _ hx
      have hxj : x.1 = j := by omega
      show (((ancOf ops).getD i 0).testBit x.1 && !absorbed (ancOf ops) (st p).acts x.1) = false
      rw [hxj, h5]; rfl
    rw [e]
    rcases hclean _ h1 _ (seq_hist hst hhist0 hI.le) with h | h
    · rw [h4] at h; cases h
    · exact h
  exact ⟨hov, hX, hI.rel.sub hov.next.symm (hov.sub fun n ob hn => (hX n ob hn).1)⟩

include hacts0 hi in
theorem Inv.look (hE : E.Good) (hR : RecsOk P G R) (hG : G ≤ base) (hok : o.op.operands.all (okOpd G) = true) {v : Value} (hs : (st (i + 1)).a = (st i).a.put o.dst v) (hsa : (st (i + 1)).acts = (st i).acts)
    (hsn : (st (i + 1)).news = (st i).news) (hev : aop E (now ops base st p i) (st i).a o = some (.val v (now ops base st p i))) (ro : Option Nat) (Q : Exit → Act → World → Prop) {K : Act → World → Prop}
    (hK : ∀ ν' p' b' w', Inv G ops base st ν₀ H₀ w₀ d₀ (mark S i) ν' p' b' w' → K b' w') : o.wpIn (fence ro) 0 P b w K Q := by
  have hin : i < ops.size := (Array.getElem?_eq_some_iff.1 ho).1
  obtain ⟨hov, hX, hrel⟩ := now_over hst hD hnews0 hhist0 hclean hI ho hr
  have hnew := not_new hst hnews0 hin hsn
  have hact := not_acting hst hacts0 hin hsa
  have hop : evOp E G R (now ops base st p i) (st i).a o = some (v, now ops base st p i) := by
    unfold evOp; rw [if_pos hok, hev]
  have hnx : (now ops base st p i).next = (st p).H.next := by rw [now, heapAt_next]
  have hroom := hI.room
  refine evOp_ok E hE hR hrel (by omega) (hI.operand hst hD ho hi hr) hop ro fun ν' v' w' q1 q2 q3 => ?_
  obtain ⟨r1, r2⟩ := frame_ok hI.rel hov hX q2 q3 hov
  refine hK ν' p _ w' (hI.next hst hD ho hi hr hs (hrel.extTo q3) q1 hI.le hI.room (mark_acts hact hI.acts) (by rw [hp_mark hnew]; exact r1) (by rw [hp_mark hnew]; exact hI.later.trans r2) ?_ (fun x hx e => absurd e (hnew x hx)))
  intro j hj hmj
  have hji : j ≠ i := by intro e; rw [e, mark_same] at hmj; cases hmj
  rw [mark_other hji] at hmj
  rw [q3.ext _ (by omega)]
  exact hI.kept j hj hmj
end one
end main
end
end Go.Ev
/- A region that draws its order: whichever operation comes next, and all of them. -/
namespace Go.Ev
noncomputable section
variable {P : Program}

section main
variable {E : Env P} {G : Nat} {R : Recs} {ops : Array Oper} {base : Nat} {st : Nat → DState}
  (hst : ∀ i o, ops[i]? = some o → DStep E G R ops (ancOf ops) base o i (st i) (st (i + 1))) (hD : Drawable ops)
  {ν₀ : Ren} {H₀ : AHeap} {w₀ : World} {d₀ : List Deferred}
  (hacts0 : (st 0).acts = []) (hnews0 : (st 0).news = []) (hhist0 : ((st 0).H, (st 0).acts) ∈ (st 0).hist)
  (hclean : ∀ x ∈ (st ops.size).news, ∀ h ∈ (st ops.size).hist, absorbed (ancOf ops) h.2 x.1 = true ∨ h.1.get (base + x.1) = none)
  (hstill : ∀ x ∈ (st ops.size).stills, ∀ h ∈ (st ops.size).hist, (∃ q ∈ h.2, ((ancOf ops).getD q 0).testBit x.1 = true) ∨ (∃ q ∈ (st ops.size).acts, q ∉ h.2 ∧ ((ancOf ops).getD x.1 0).testBit q = true) ∨
    ∃ H', aop E (heapAt (ancOf ops) base h.1 h.2 (fun j => ((ancOf ops).getD x.1 0).testBit j) (st ops.size).news) x.2.2.1 x.2.1 = some (.val x.2.2.2 H'))
  {S : Nat → Bool} {ν : Ren} {p : Nat} {b : Act} {w : World} (hI : Inv G ops base st ν₀ H₀ w₀ d₀ S ν p b w) {i : Nat} {o : Oper} (ho : ops[i]? = some o) (hi : S i = false)
    (hr : ∀ e ∈ o.after.toList, Region.binds .any e = true → S e.on = true)

include hst hnews0 in
/-- With the objects of the whole, or those made so far: an operation counts on the same. -/
theorem now_eq (hback : ∀ i o, ops[i]? = some o → ∀ e ∈ o.after.toList, Region.binds .any e = true → e.on < i) (hin : i < ops.size) (h1 : (st p).H = (st i).H) (h2 : (st p).acts = (st i).acts) : heapFor (ancOf ops) base i (st i) = now ops base st p i := by
  obtain ⟨La, Ln, Ls, -, -, a3, a4, -⟩ := seq_to hst (i := i) (j := ops.size) (by omega) (Nat.le_refl _)
  unfold heapFor now
  rw [h1, h2, a3, heapAt_skip]
  intro x hx
  have := a4 x hx
  cases h : ((ancOf ops).getD i 0).testBit x.1 with
  | false => rfl
  | true => have := anc_lt hback i x.1 h; omega

include hst hD hacts0 hnews0 hhist0 hclean hstill hI ho hi hr in
theorem Inv.step (hE : E.Good) (hR : RecsOk P G R) (hG : G ≤ base) (hH₀ : H₀.next = base) (ro : Option Nat) (Q : Exit → Act → World → Prop) {K : Act → World → Prop}
    (hK : ∀ ν' p' b' w', Inv G ops base st ν₀ H₀ w₀ d₀ (mark S i) ν' p' b' w' → K b' w') : wpOpIn (fence ro) 0 P ops Q i K b w := by
  have hin : i < ops.size := (Array.getElem?_eq_some_iff.1 ho).1
  have hanc : ∀ j, ((ancOf ops).getD i 0).testBit j = true → S j = true := fun j h => anc_ready (S := fun j => S j = true) hD.back hI.down ho hr j h
  have hdown : ∀ q, S q = true → ((ancOf ops).getD q 0).testBit i = true → False := fun q hq h => by
    have := anc_closed (S := fun j => S j = true) hD.back hI.down q i hq h
    rw [hi] at this; cases this
  have hw := hI.wanted hst hD ho hr
  unfold wpOpIn
  simp only [ho]
  rw [hw]
  have hd := hst i o ho
  -- reading operations
  have look : ∀ (hok : o.op.operands.all (okOpd G) = true) (v : Value) (hs : (st (i + 1)).a = (st i).a.put o.dst v) (hsa : (st (i + 1)).acts = (st i).acts) (hsn : (st (i + 1)).news = (st i).news)
      (hev : aop E (now ops base st p i) (st i).a o = some (.val v (now ops base st p i))), o.wpIn (fence ro) 0 P b w K Q :=
    fun hok v hs hsa hsn hev => hI.look hst hD hacts0 hnews0 hhist0 hclean ho hi hr hE hR hG hok hs hsa hsn hev ro Q hK
  generalize hs1 : st (i + 1) = s' at hd look
  cases hd with
  | skip hw0 =>
    rw [if_neg (by rw [hw0]; simp)]
    have hnew := not_new hst hnews0 hin (by rw [hs1])
    have hact := not_acting hst hacts0 hin (by rw [hs1])
    refine ⟨fun _ _ => trivial, hK ν p _ w (hI.next hst hD ho hi hr (v := undef) (by rw [hs1]) (fun _ _ h => h) (VRel.und ν) hI.le hI.room (mark_acts hact hI.acts) (by rw [hp_mark hnew]; exact hI.rel) (by rw [hp_mark hnew]; exact hI.later) ?_ (fun x hx e => absurd e (hnew x hx)))⟩
    intro j hj hmj
    have hji : j ≠ i := by intro e; rw [e, mark_same] at hmj; cases hmj
    rw [mark_other hji] at hmj
    exact hI.kept j hj hmj
  | calm hw0 hok hk v H' h =>
    rw [if_pos hw0]
    exact look hok v rfl rfl rfl (aop_calm E hk h _)
  | still hw0 hok hk v H' h =>
    rw [if_pos hw0]
    refine look hok v rfl rfl rfl ?_
    by_cases hord : ordered ops (ancOf ops) i = true
    · -- it comes with each acting operation in one order only
      have hsame := seq_same hst hI.le (show i ≤ ops.size by omega) fun q hq => by
        obtain ⟨oq, hoq, hkq, -⟩ := acts_op hst hacts0 hq
        have h1 := List.all_eq_true.1 hord (oq, q) (mem_zipIdx hoq)
        simp only [hkq, Bool.false_or, Bool.or_eq_true] at h1
        rw [← hI.acts q hq]
        rcases h1 with h1 | h1
        · have := anc_lt hD.back i q h1
          simp [hanc q h1, this]
        · have h2 := anc_lt hD.back q i h1
          constructor
          · intro hsq; exact (hdown q hsq h1).elim
          · intro hlt; omega
      rw [now_eq hst hnews0 hD.back hin hsame.1 hsame.2] at h
      rw [h, aop_still E hk h]
    · have hmem : (i, o, (st i).a, v) ∈ (st ops.size).stills := by
        obtain ⟨La, Ln, Ls, -, -, -, -, a5, -⟩ := seq_to hst (i := i + 1) (j := ops.size) (by omega) (Nat.le_refl _)
        rw [a5, hs1]
        refine List.mem_append_right _ ?_
        rw [if_neg hord]; simp
      rcases hstill _ hmem _ (seq_hist hst hhist0 hI.le) with ⟨q, hq, h1⟩ | ⟨q, hq, hnq, h1⟩ | ⟨H2, h1⟩
      · have h2 := acts_sub hst hI.le hq
        have h3 := seq_acts_lt hst hacts0 hI.le q hq
        exact (hdown q ((hI.acts q h2).2 h3) h1).elim
      · have h2 := (hI.acts q hq).1 (hanc q h1)
        exact (hnq (acts_before hst hI.le hq h2)).elim
      · have h2 := aop_still E hk h1
        rw [h2] at h1; exact h1
  | fresh hw0 hok hk v ob h =>
    rw [if_pos hw0]
    have hops : ∀ x ∈ o.op.operands, VRel ν ((st i).a.eval x) (b.eval x) := fun x hx => hI.operand hst hD ho hi hr x hx (by simpa using Array.all_eq_true_iff_forall_mem.1 hok x hx)
    obtain ⟨⟨s, hs, v', obj, L, hrun, hL, hrel⟩, hlive, holds⟩ := anew_ok E hI.rel hk hops h
    have hnd : ∀ c, o.op ≠ .defer c := by
      intro c hc; rw [hc] at hk; simp [kindOf] at hk
    have hact := not_acting hst hacts0 hin (by rw [hs1])
    have hnone := hI.kept i hin hi
    have hex : ExtTo ν (ν.add (base + i) L) := by
      intro m l hm
      have : m ≠ base + i := by intro e; subst e; rw [hnone] at hm; cases hm
      simp [Ren.add, this, hm]
    obtain ⟨r1, r2⟩ := hrel (ν.add (base + i) L) hex (by simp [Ren.add])
    have hmem : (i, ob) ∈ (st ops.size).news := by
      obtain ⟨La, Ln, Ls, -, -, a3, -⟩ := seq_to hst (i := i + 1) (j := ops.size) (by omega) (Nat.le_refl _)
      rw [a3, hs1]; simp
    have hu := news_once hst hnews0 (Nat.le_refl ops.size)
    have hroom := hI.room
    have hget : ∀ m, (hp (ancOf ops) base (st p) (st ops.size) (mark S i)).get m = if m = base + i then some ob else (hp (ancOf ops) base (st p) (st ops.size) S).get m := by
      intro m
      unfold hp
      rw [heapAt_get, heapAt_get]
      by_cases hm : m = base + i
      · rw [if_pos hm, hm, pick_mem (o := ob) (fun x hx e => congrArg Prod.snd (hu x hx (i, ob) hmem e)) hmem]
        have : absorbed (ancOf ops) (st p).acts i = false := by
          cases hab : absorbed (ancOf ops) (st p).acts i with
          | false => rfl
          | true =>
            obtain ⟨q, hq, h1⟩ := absorbed_true.1 hab
            have h2 := acts_sub hst hI.le hq
            have h3 := seq_acts_lt hst hacts0 hI.le q hq
            exact (hdown q ((hI.acts q h2).2 h3) h1).elim
        rw [mark_same, this]; rfl
      · rw [if_neg hm, pick_congr_at (g := fun j => S j && !absorbed (ancOf ops) (st p).acts j)]
        intro x _ hx
        rw [mark_other (by intro e; rw [e] at hx; exact hm hx)]
    have hnext : (hp (ancOf ops) base (st p) (st ops.size) (mark S i)).next = (hp (ancOf ops) base (st p) (st ops.size) S).next := by
      unfold hp; rw [heapAt_next, heapAt_next]
    have hnx : (hp (ancOf ops) base (st p) (st ops.size) S).next = (st p).H.next := by unfold hp; rw [heapAt_next]
    obtain ⟨t1, t2, t3⟩ := addAt hI.rel (base + i) ob obj L (by omega) (by omega) hnone hL r2 hnext hget hlive
    refine ⟨fun _ _ => trivial, ?_⟩
    rw [Oper.semAt_eq _ _ _ hnd, hs]
    simp only [Sem.run_bind, hrun, Result.andThen_ok, Sem.run_pure]
    refine hK (ν.add (base + i) L) p _ _ (hI.next hst hD ho hi hr (by rw [hs1]) hex r1 hI.le hI.room (mark_acts hact hI.acts) t1 (t3 hI.later (by omega)) ?_ ?_)
    · intro j hj hmj
      have hji : j ≠ i := by intro e; rw [e, mark_same] at hmj; cases hmj
      rw [mark_other hji] at hmj
      simp [Ren.add, hji]
      exact hI.kept j hj hmj
    · intro x hx e
      have := hu x hx (i, ob) hmem e
      rw [this]; exact ⟨hlive, holds⟩
  | acts hw0 hok hk hbefore v H' h =>
    rw [if_pos hw0]
    have hiact : i ∈ (st ops.size).acts := acts_sub hst (i := i + 1) (by omega) (by rw [hs1]; simp)
    have hiff : ∀ q ∈ (st ops.size).acts, S q = true ↔ q < i := by
      intro q hq
      constructor
      · intro hsq
        rcases Nat.lt_trichotomy q i with hlt | rfl | hgt
        · exact hlt
        · rw [hi] at hsq; cases hsq
        · obtain ⟨oq, hoq, hkq, hall⟩ := acts_op hst hacts0 hq
          have hqn := seq_acts_lt hst hacts0 (Nat.le_refl _) q hq
          exact (hdown q hsq (hall i (acts_before hst (by omega) hiact hgt))).elim
      · intro hlt
        exact hanc q (hbefore q (acts_before hst (by omega) hq hlt))
    have hsame := seq_same hst hI.le (show i ≤ ops.size by omega) fun q hq => by rw [← hI.acts q hq]; exact hiff q hq
    rw [now_eq hst hnews0 hD.back hin hsame.1 hsame.2] at h
    obtain ⟨hov, hX, hrel⟩ := now_over hst hD hnews0 hhist0 hclean hI ho hr
    have hnew := not_new hst hnews0 hin (by rw [hs1])
    have hnx : (now ops base st p i).next = (st p).H.next := by rw [now, heapAt_next]
    have hroom := hI.room
    have hu := news_once hst hnews0 (Nat.le_refl ops.size)
    have hov' : Over (beside ops base st S p i) H' (hp (ancOf ops) base (st (i + 1)) (st ops.size) (mark S i)) := by
      rw [hs1]
      refine over_pick hu (by unfold hp; rw [heapAt_next]) (H := H') (fK := fun _ => false) (fun m => ?_) (heapAt_get _ _ _ _ _ · _) ?_
      · rw [pick_none (fun _ _ _ => rfl)]
      · intro x hx
        have hxi := hnew x hx
        simp only [mark_other hxi, absorbed_cons, hsame.2, Bool.or_false, Bool.not_or]
        cases S x.1 <;> cases ((ancOf ops).getD i 0).testBit x.1 <;> cases absorbed (ancOf ops) (st i).acts x.1 <;> rfl
    refine evOp_ok E hE hR hrel (by omega) (hI.operand hst hD ho hi hr) h ro fun ν' v' w' q1 q2 q3 => ?_
    obtain ⟨r1, r2⟩ := frame_ok hI.rel hov hX q2 q3 hov'
    have hq3 := q3.next
    refine hK ν' (i + 1) _ w' (hI.next hst hD ho hi hr (by rw [hs1]) (hrel.extTo q3) q1 (by omega) (by rw [hs1]; show base + ops.size ≤ H'.next; omega) ?_ r1 (hI.later.trans r2) ?_ (fun x hx e => absurd e (hnew x hx)))
    · intro q hq
      by_cases hqi : q = i
      · rw [hqi, mark_same]; simp
      · rw [mark_other hqi, hiff q hq]; omega
    · intro j hj hmj
      have hji : j ≠ i := by intro e; rw [e, mark_same] at hmj; cases hmj
      rw [mark_other hji] at hmj
      rw [q3.ext _ (by omega)]
      exact hI.kept j hj hmj
end main
end
end Go.Ev
/- A region that draws its order: evDraw is right. With it, the whole evaluator is. -/
namespace Go.Ev
noncomputable section
variable {P : Program}

def todo (listed : Array Bool) : Nat := listed.toList.countP fun x => !x

theorem todo_set {listed : Array Bool} {i : Nat} (hi : i < listed.size) (hf : listed.getD i true = false) : todo (listed.setIfInBounds i true) = todo listed - 1 := by
  have h1 : listed.toList[i]'(by simpa using hi) = false := by
    rw [Array.getElem_toList]
    simpa [Array.getD, hi] using hf
  unfold todo
  rw [Array.toList_setIfInBounds, List.countP_set (by simpa using hi), h1]
  simp

section main
variable {E : Env P} {G : Nat} {R : Recs} {ops : Array Oper} {base : Nat} {st : Nat → DState}
  (hst : ∀ i o, ops[i]? = some o → DStep E G R ops (ancOf ops) base o i (st i) (st (i + 1))) (hD : Drawable ops)
  {ν₀ : Ren} {H₀ : AHeap} {w₀ : World} {d₀ : List Deferred}
  (hacts0 : (st 0).acts = []) (hnews0 : (st 0).news = []) (hhist0 : ((st 0).H, (st 0).acts) ∈ (st 0).hist)
  (hclean : ∀ x ∈ (st ops.size).news, ∀ h ∈ (st ops.size).hist, absorbed (ancOf ops) h.2 x.1 = true ∨ h.1.get (base + x.1) = none)
  (hstill : ∀ x ∈ (st ops.size).stills, ∀ h ∈ (st ops.size).hist, (∃ q ∈ h.2, ((ancOf ops).getD q 0).testBit x.1 = true) ∨ (∃ q ∈ (st ops.size).acts, q ∉ h.2 ∧ ((ancOf ops).getD x.1 0).testBit q = true) ∨
    ∃ H', aop E (heapAt (ancOf ops) base h.1 h.2 (fun j => ((ancOf ops).getD x.1 0).testBit j) (st ops.size).news) x.2.2.1 x.2.1 = some (.val x.2.2.2 H'))

include hst hD hacts0 hnews0 hhist0 hclean hstill in
theorem any_ok (hE : E.Good) (hR : RecsOk P G R) (hG : G ≤ base) (hH₀ : H₀.next = base) (ro : Option Nat) (Q : Exit → Act → World → Prop)
    (hQ : ∀ S ν p b w, (∀ j, j < ops.size → S j = true) → Inv G ops base st ν₀ H₀ w₀ d₀ S ν p b w → Q .normal b w) :
    ∀ (fuel : Nat) (listed : Array Bool) (ν : Ren) (p : Nat) (b : Act) (w : World), listed.size = ops.size → todo listed ≤ fuel → Inv G ops base st ν₀ H₀ w₀ d₀ (fun j => listed.getD j false) ν p b w →
      wpAnyIn (fence ro) 0 P .any ops Q fuel listed b w := by
  have unlisted : ∀ (listed : Array Bool) j, listed.size = ops.size → j < ops.size → listed.getD j false = false → listed.getD j true = false := by
    intro listed j hs hj h
    have : j < listed.size := hs ▸ hj
    simpa [Array.getD, this] using h
  have full : ∀ (listed : Array Bool), listed.size = ops.size → Region.ready .any ops listed = [] → ∀ j, j < ops.size → listed.getD j false = true := by
    intro listed hs hnil j
    induction j using Nat.strongRecOn with
    | _ j ih =>
      intro hj
      cases hl : listed.getD j false with
      | true => rfl
      | false =>
        have hget : ops[j]? = some ops[j] := Array.getElem?_eq_getElem hj
        have : j ∈ Region.ready .any ops listed := mem_ready.2 ⟨unlisted listed j hs hj hl, _, hget, fun e he hb => by
          have hlt := hD.back j _ hget e (by simpa using he) hb
          exact ih e.on hlt (by omega)⟩
        rw [hnil] at this; cases this
  intro fuel
  induction fuel with
  | zero =>
    intro listed ν p b w hs ht hI
    have hall : ∀ j, j < ops.size → listed.getD j false = true := by
      intro j hj
      have hlt : j < listed.size := hs ▸ hj
      have h0 : todo listed = 0 := by omega
      unfold todo at h0
      have := List.countP_eq_zero.1 h0 listed[j] (by simp)
      simpa [Array.getD, hlt] using this
    refine ⟨?_, hQ _ ν p b w hall hI⟩
    cases hr : Region.ready .any ops listed with
    | nil => rfl
    | cons i l =>
      have hmem : i ∈ Region.ready .any ops listed := by rw [hr]; simp
      obtain ⟨h1, o, ho, -⟩ := mem_ready.1 hmem
      have hin : i < ops.size := (Array.getElem?_eq_some_iff.1 ho).1
      have h2 := hall i hin
      have hlt : i < listed.size := hs ▸ hin
      simp [Array.getD, hlt] at h1 h2
      rw [h1] at h2; cases h2
  | succ fuel ih =>
    intro listed ν p b w hs ht hI
    refine ⟨fun hnil => hQ _ ν p b w (full listed hs hnil) hI, fun i hi => ?_⟩
    obtain ⟨h1, o, ho, h2⟩ := mem_ready.1 hi
    have hin : i < ops.size := (Array.getElem?_eq_some_iff.1 ho).1
    have hlt : i < listed.size := hs ▸ hin
    have hf : listed.getD i false = false := by simpa [Array.getD, hlt] using h1
    refine Inv.step hst hD hacts0 hnews0 hhist0 hclean hstill hI ho hf (fun e he hb => h2 e (by simpa using he) hb) hE hR hG hH₀ ro Q fun ν' p' b' w' hI' => ?_
    refine ih _ ν' p' b' w' (by simpa using hs) (by rw [todo_set hlt h1]; omega) ?_
    have : (fun j => (listed.setIfInBounds i true).getD j false) = mark (fun j => listed.getD j false) i := by
      funext j
      by_cases hji : j = i
      · subst hji; simp [mark, Array.getD_eq_getD_getElem?, hlt]
      · rw [mark_other hji]
        simp [Array.getD_eq_getD_getElem?, Ne.symm hji]
    rw [this]; exact hI'
end main

theorem evDraw_ok (E : Env P) (hE : E.Good) {G : Nat} (hmix : P.follows .mixedOrders = true) : ∀ R, RecsOk P G R → DrawOk P G (evDraw E G R) := by
  intro R hR id ops a H a' H' hv ν w b ro Q h hG hab hQ
  unfold evDraw at hv
  split at hv
  case isFalse => cases hv
  rename_i hdr
  split at hv
  case h_2 => cases hv
  rename_i s hgo
  split at hv
  case isFalse => cases hv
  rename_i hstb
  cases hv
  have hD := drawable_ok hdr
  obtain ⟨st, h0, hn, hst'⟩ := drawGo_seq hgo
  rw [Nat.zero_add, Array.length_toList] at hn
  have hst : ∀ i o, ops[i]? = some o → DStep E G R ops (ancOf ops) H.next o i (st i) (st (i + 1)) := by
    intro i o ho
    have := hst' i o (by simpa using ho)
    simpa using this
  have hacts0 : (st 0).acts = [] := by rw [h0]
  have hnews0 : (st 0).news = [] := by rw [h0]
  have hhist0 : ((st 0).H, (st 0).acts) ∈ (st 0).hist := by rw [h0]; simp
  unfold stable at hstb
  rw [Bool.and_eq_true] at hstb
  have hclean : ∀ x ∈ (st ops.size).news, ∀ h ∈ (st ops.size).hist, absorbed (ancOf ops) h.2 x.1 = true ∨ h.1.get (H.next + x.1) = none := by
    rw [hn]
    intro x hx hh hhm
    have h1 := List.all_eq_true.1 (List.all_eq_true.1 hstb.2 x hx) hh hhm
    simpa using h1
  have hstill : ∀ x ∈ (st ops.size).stills, ∀ h ∈ (st ops.size).hist, (∃ q ∈ h.2, ((ancOf ops).getD q 0).testBit x.1 = true) ∨ (∃ q ∈ (st ops.size).acts, q ∉ h.2 ∧ ((ancOf ops).getD x.1 0).testBit q = true) ∨
      ∃ H', aop E (heapAt (ancOf ops) H.next h.1 h.2 (fun j => ((ancOf ops).getD x.1 0).testBit j) (st ops.size).news) x.2.2.1 x.2.1 = some (.val x.2.2.2 H') := by
    rw [hn]
    intro x hx hh hhm
    have h1 := List.all_eq_true.1 (List.all_eq_true.1 hstb.1 x hx) hh hhm
    rw [Bool.or_eq_true, Bool.or_eq_true] at h1
    rcases h1 with (h1 | h1) | h1
    · exact .inl (by simpa only [List.any_eq_true] using h1)
    · refine .inr (.inl ?_)
      obtain ⟨q, h2, h3⟩ := List.any_eq_true.1 h1
      rw [Bool.and_eq_true] at h3
      exact ⟨q, h2, by simpa using h3.1, h3.2⟩
    · refine .inr (.inr ?_)
      split at h1
      · rename_i u H2 hop
        exact ⟨H2, by rw [hop, veq_eq _ _ _ h1]⟩
      · cases h1
  refine wpIn_region_any hmix ?_
  have hstart : Inv G ops H.next st ν H w a.defers (fun j => (Array.replicate ops.size false).getD j false) ν 0 b { w with drawn := w.drawn + 1 } := by
    have hS : (fun j => (Array.replicate ops.size false).getD j false) = fun _ => false := by
      funext j
      by_cases hj : j < ops.size <;> simp [Array.getD, hj]
    rw [hS]
    have hheap : hp (ancOf ops) H.next (st 0) (st ops.size) (fun _ => false) = { H with next := H.next + ops.size } := by
      have := heapAt_skip (ancOf ops) H.next (st 0).H (st 0).acts (fun _ => false) [] (st ops.size).news (fun _ _ => rfl)
      rw [List.append_nil] at this
      unfold hp
      rw [this, h0]; rfl
    refine ⟨Nat.zero_le _, by rw [h0]; exact Nat.le_refl _, fun q _ => by simp, ?_, ?_, fun j _ _ => h.fresh _ (by omega), ?_, hab.defers, by rw [h0]; exact hab.tmps.1.symm, (fun x _ hx => by cases hx), (fun i o _ hx => by cases hx)⟩
    · rw [hheap]
      exact ⟨h.obj, h.block, fun n hn => h.fresh n (by simp at hn; omega), h.sep, h.glob⟩
    · rw [hheap]
      exact ⟨fun _ _ => rfl, by simp, rfl, rfl, rfl, Nat.le_refl _, fun _ _ _ => rfl, fun n o l hn hl _ => ⟨n, o, l, hn, hl, rfl, fun hh => hh⟩, fun _ => rfl⟩
    · intro t i hi hw
      have := seq_tmp hst (t := t) i 0 (by omega) fun k o _ h2 hk hd => by
        have := (hw k o hk hd).2 (by omega)
        cases this
      rw [Nat.zero_add] at this
      rw [this, h0]
      exact hab.tmps.getD t
  refine any_ok hst hD hacts0 hnews0 hhist0 hclean hstill hE hR hG rfl ro Q ?_ ops.size _ ν 0 b _ (by simp) (by unfold todo; exact Nat.le_trans List.countP_le_length (by simp)) hstart
  intro S ν' p b' w' hall hI
  have hsame := seq_same hst hI.le (Nat.le_refl ops.size) fun q hq => by
    have h1 := seq_acts_lt hst hacts0 (Nat.le_refl _) q hq
    simp [h1, (hI.acts q hq).1 (hall q h1)]
  have hfin : hp (ancOf ops) H.next (st p) (st ops.size) S = heapAt (ancOf ops) H.next s.H s.acts (fun _ => true) s.news := by
    unfold hp
    rw [hsame.1, hsame.2, hn]
    exact heapAt_congr _ _ _ _ fun x hx => hall x.1 (seq_news_lt hst hnews0 (Nat.le_refl _) x (by rw [hn]; exact hx))
  refine hQ ν' b' w' (hfin ▸ hI.rel) ⟨⟨?_, ?_⟩, ?_⟩ (hfin ▸ hI.later)
  · rw [hI.size, ← hn, seq_size hst (Nat.le_refl _)]
  · intro t _
    have := hI.tmps t ops.size (Nat.le_refl _) fun k o hk _ => by
      have hin : k < ops.size := (Array.getElem?_eq_some_iff.1 hk).1
      simp [hin, hall k hin]
    rw [hn] at this; exact this
  · have := seq_defers hst (Nat.le_refl ops.size)
    rw [hn, h0] at this
    rw [this]; exact hI.defers

/-- What the evaluator says is what the machine does, on every tape and in every order. -/
theorem evd_ok (E : Env P) (hE : E.Good) {G : Nat} (hmix : P.follows .mixedOrders = true) (n : Nat) : RecsOk P G (ev E G (evDraw E G) n) :=
  ev_ok E hE (evDraw_ok E hE hmix) n
end
end Go.Ev
