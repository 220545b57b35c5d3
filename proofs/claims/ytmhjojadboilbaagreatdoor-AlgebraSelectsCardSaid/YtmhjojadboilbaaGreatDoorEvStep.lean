/- Contracts over the evaluator's memory: what a call, a round, a loop come to where the memory is not known. -/
import Derived.Test.YtmhjojadboilbaaGreatDoorEvDraw
import Derived.Test.YtmhjojadboilbaaGreatDoorEvFast
set_option linter.unusedVariables false
set_option linter.unusedSimpArgs false
set_option linter.unusedSectionVars false
namespace Go.Ev
noncomputable section
variable {P : Program}

/-- The machine's call, wherever this memory lies, comes to this value and this memory. -/
def Sound (P : Program) (G : Nat) (f : FuncId) (args : Array Value) (H : AHeap) (v : Value) (H' : AHeap) : Prop :=
  ∀ ν w args', HRel G ν H w → G ≤ H.next → ARel ν args args' → CallsIn Fence.wide 0 P f args' w (RetPost G ν H w v H')

def SoundRound (P : Program) (G : Nat) (l : Nat) (args : Array Value) (H : AHeap) (v : Value) (H' : AHeap) : Prop :=
  ∀ ν w k args', HRel G ν H w → G ≤ H.next → ν l = some k → ARel ν args args' →
    ∃ f tmps asg body, (Instr.yield k.block args').run P w = .ok (.round k.block f tmps asg body) w ∧ RoundIn Fence.wide 0 P k.block f tmps asg body w (RetPost G ν H w v H')

def SoundLoop (P : Program) (G : Nat) (rd : Option Nat) (c : Code) (a : Act) (H : AHeap) (e : Exit) (a' : Act) (H' : AHeap) : Prop :=
  ∀ ν w act b, HRel G ν H w → G ≤ H.next → ActRel ν a act → RdRel ν rd b → LoopIn (fence b) 0 P c (CodePost G ν H w e a' H') act w

/-- What a proof wants to know of what its calls, rounds and loops come to. -/
structure Reg where
  call : FuncId → Array Value → AHeap → Value → AHeap → Prop := fun _ _ _ _ _ => True
  loop : Option Nat → Code → Act → AHeap → Exit → Act → AHeap → Prop := fun _ _ _ _ _ _ _ => True
  round : Nat → Array Value → AHeap → Value → AHeap → Prop := fun _ _ _ _ _ => True

open Classical in
/-- Answers that are right, and of which the proof knows what it wants to know. -/
def recsOf (P : Program) (G : Nat) (S : Reg) : Recs where
  call f args H := if h : ∃ r : Value × AHeap, Sound P G f args H r.1 r.2 ∧ S.call f args H r.1 r.2 then some (Classical.choose h) else none
  loop rd c a H := if h : ∃ r : Exit × Act × AHeap, SoundLoop P G rd c a H r.1 r.2.1 r.2.2 ∧ S.loop rd c a H r.1 r.2.1 r.2.2 then some (Classical.choose h) else none
  round l args H := if h : ∃ r : Value × AHeap, SoundRound P G l args H r.1 r.2 ∧ S.round l args H r.1 r.2 then some (Classical.choose h) else none

theorem recsOf_ok (P : Program) (G : Nat) (S : Reg) : RecsOk P G (recsOf P G S) where
  call f args H v H' h := by
    unfold recsOf at h
    simp only at h
    split at h
    · rename_i hx
      have := (Classical.choose_spec hx).1
      rw [Option.some.inj h] at this
      exact this
    · cases h
  round l args H v H' h := by
    unfold recsOf at h
    simp only at h
    split at h
    · rename_i hx
      have := (Classical.choose_spec hx).1
      rw [Option.some.inj h] at this
      exact this
    · cases h
  loop rd c a H e a' H' h := by
    unfold recsOf at h
    simp only at h
    split at h
    · rename_i hx
      have := (Classical.choose_spec hx).1
      rw [Option.some.inj h] at this
      exact this
    · cases h

theorem recsOf_call {P : Program} {G : Nat} {S : Reg} {f : FuncId} {args : Array Value} {H : AHeap} (h : ∃ v H', Sound P G f args H v H' ∧ S.call f args H v H') :
    ∃ v H', (recsOf P G S).call f args H = some (v, H') ∧ S.call f args H v H' := by
  obtain ⟨v, H', h1, h2⟩ := h
  have hx : ∃ r : Value × AHeap, Sound P G f args H r.1 r.2 ∧ S.call f args H r.1 r.2 := ⟨(v, H'), h1, h2⟩
  refine ⟨(Classical.choose hx).1, (Classical.choose hx).2, ?_, (Classical.choose_spec hx).2⟩
  unfold recsOf
  simp only [dif_pos hx]

theorem recsOf_loop {P : Program} {G : Nat} {S : Reg} {rd : Option Nat} {c : Code} {a : Act} {H : AHeap} (h : ∃ e a' H', SoundLoop P G rd c a H e a' H' ∧ S.loop rd c a H e a' H') :
    ∃ e a' H', (recsOf P G S).loop rd c a H = some (e, a', H') ∧ S.loop rd c a H e a' H' := by
  obtain ⟨e, a', H', h1, h2⟩ := h
  have hx : ∃ r : Exit × Act × AHeap, SoundLoop P G rd c a H r.1 r.2.1 r.2.2 ∧ S.loop rd c a H r.1 r.2.1 r.2.2 := ⟨(e, a', H'), h1, h2⟩
  refine ⟨(Classical.choose hx).1, (Classical.choose hx).2.1, (Classical.choose hx).2.2, ?_, (Classical.choose_spec hx).2⟩
  unfold recsOf
  simp only [dif_pos hx]

/-- A call, evaluated with right answers, is right. -/
theorem sound_call (E : Env P) (hE : E.Good) {G : Nat} (hmix : P.follows .mixedOrders = true) {R : Recs} (hR : RecsOk P G R) {f : FuncId} {args : Array Value} {H : AHeap} {v : Value} {H' : AHeap}
    (h : evCall E G R (evDraw E G R) f args H = some (v, H')) : Sound P G f args H v H' :=
  fun ν w args' h1 h2 h3 => evCall_ok E hE hR (evDraw_ok E hE hmix R hR) f args H v H' h ν w args' h1 h2 h3

theorem sound_round (E : Env P) (hE : E.Good) {G : Nat} (hmix : P.follows .mixedOrders = true) {R : Recs} (hR : RecsOk P G R) {l : Nat} {args : Array Value} {H : AHeap} {v : Value} {H' : AHeap}
    (h : evRound E G R (evDraw E G R) l args H = some (v, H')) : SoundRound P G l args H v H' :=
  fun ν w k args' h1 h2 h3 h4 => evRound_ok E hE hR (evDraw_ok E hE hmix R hR) l args H v H' h ν w k args' h1 h2 h3 h4

theorem sound_loop (E : Env P) (hE : E.Good) {G : Nat} (hmix : P.follows .mixedOrders = true) {R : Recs} (hR : RecsOk P G R) {rd : Option Nat} {c : Code} {a : Act} {H : AHeap} {e : Exit} {a' : Act} {H' : AHeap}
    (h : evLoop E G R (evDraw E G R) rd c a H = some (e, a', H')) : SoundLoop P G rd c a H e a' H' :=
  fun ν w act b h1 h2 h3 h4 => evLoop_ok E hE hR (evDraw_ok E hE hmix R hR) rd c a H e a' H' h ν w act b h1 h2 h3 h4

/-- **A loop by its invariant**: n counts down with each round. -/
theorem loop_rule (E : Env P) (hE : E.Good) {G : Nat} (hmix : P.follows .mixedOrders = true) {rd : Option Nat} {c : Code} (Inv : Nat → Act → AHeap → Prop) (Q : Exit → Act → AHeap → Prop)
    (step : ∀ n a H, Inv n a H → ∃ R, RecsOk P G R ∧ ∃ e a' H', evC E G R (evDraw E G R) rd c a H = some (e, a', H') ∧ (match e with | .normal => ∃ m, m < n ∧ Inv m a' H' | e => Q e a' H')) :
    ∀ n a H, Inv n a H → ∃ e a' H', SoundLoop P G rd c a H e a' H' ∧ Q e a' H' := by
  intro n
  induction n using Nat.strongRecOn with
  | ind n ih =>
    intro a H hi
    obtain ⟨R, hR, e, a1, H1, hev, hq⟩ := step n a H hi
    have base : ∀ ν w act b, HRel G ν H w → G ≤ H.next → ActRel ν a act → RdRel ν rd b → c.wpIn (fence b) 0 P (CodePost G ν H w e a1 H1) act w :=
      fun ν w act b h1 h2 h3 h4 => evC_ok E hE hR (evDraw_ok E hE hmix R hR) rd c a H e a1 H1 hev ν w act b h1 h2 h3 h4
    cases e with
    | normal =>
      obtain ⟨m, hm, hi'⟩ := hq
      obtain ⟨e2, a2, H2, hs, hq2⟩ := ih m hm a1 H1 hi'
      refine ⟨e2, a2, H2, fun ν w act b h1 h2 h3 h4 => LoopIn.round (wpIn_mono (base ν w act b h1 h2 h3 h4) fun e' b' w' hp => ?_), hq2⟩
      obtain ⟨rfl, ν1, q1, q2, q3⟩ := hp
      have := hs ν1 w' b' b q1 (Nat.le_trans h2 q3.next) q2 (h4.ext (h1.extTo q3))
      intro bb kk cs hro hb hr
      obtain ⟨e3, a3, w3, hq3, harr⟩ := this bb kk cs hro hb hr
      obtain ⟨rfl, ν2, p1, p2, p3⟩ := hq3
      exact ⟨_, a3, w3, ⟨rfl, ν2, p1, p2, q3.trans p3⟩, harr⟩
    | exit id => exact ⟨_, a1, H1, fun ν w act b h1 h2 h3 h4 => LoopIn.round (wpIn_mono (base ν w act b h1 h2 h3 h4) fun e' b' w' hp => by obtain ⟨rfl, hp⟩ := hp; exact ⟨rfl, hp⟩), hq⟩
    | goto l => exact ⟨_, a1, H1, fun ν w act b h1 h2 h3 h4 => LoopIn.round (wpIn_mono (base ν w act b h1 h2 h3 h4) fun e' b' w' hp => by obtain ⟨rfl, hp⟩ := hp; exact ⟨rfl, hp⟩), hq⟩
    | ret => exact ⟨_, a1, H1, fun ν w act b h1 h2 h3 h4 => LoopIn.round (wpIn_mono (base ν w act b h1 h2 h3 h4) fun e' b' w' hp => by obtain ⟨rfl, hp⟩ := hp; exact ⟨rfl, hp⟩), hq⟩
    | panic ch => exact ⟨_, a1, H1, fun ν w act b h1 h2 h3 h4 => LoopIn.round (wpIn_mono (base ν w act b h1 h2 h3 h4) fun e' b' w' hp => by obtain ⟨rfl, hp⟩ := hp; exact ⟨rfl, hp⟩), hq⟩
    | outgrown => exact ⟨_, a1, H1, fun ν w act b h1 h2 h3 h4 => LoopIn.round (wpIn_mono (base ν w act b h1 h2 h3 h4) fun e' b' w' hp => by obtain ⟨rfl, hp⟩ := hp; exact ⟨rfl, hp⟩), hq⟩

/-! ### Answers put together -/

def noRecs : Recs := { loop := fun _ _ _ _ => none, call := fun _ _ _ => none, round := fun _ _ _ => none }
theorem noRecs_ok (G : Nat) : RecsOk P G noRecs := ⟨fun _ _ _ _ _ h => by simp [noRecs] at h, fun _ _ _ _ _ h => by simp [noRecs] at h, fun _ _ _ _ _ _ _ h => by simp [noRecs] at h⟩

/-- .. and one function's answers more. -/
def addF (R : Recs) (f : FuncId) (F : Array Value → AHeap → Option (Value × AHeap)) : Recs := { R with call := fun g args H => if g = f then F args H else R.call g args H }
theorem addF_same (R : Recs) (f : FuncId) (F) (args : Array Value) (H : AHeap) : (addF R f F).call f args H = F args H := by simp [addF]
theorem addF_ne (R : Recs) (f g : FuncId) (F) (args : Array Value) (H : AHeap) (h : g ≠ f) : (addF R f F).call g args H = R.call g args H := by simp [addF, h]
theorem addF_ok {G : Nat} {R : Recs} (hR : RecsOk P G R) {f : FuncId} {F : Array Value → AHeap → Option (Value × AHeap)} (hF : ∀ args H v H', F args H = some (v, H') → Sound P G f args H v H') : RecsOk P G (addF R f F) where
  call g args H v H' h := by
    simp only [addF] at h
    split at h
    · rename_i e; subst e; exact hF args H v H' h
    · exact hR.call g args H v H' h
  round := hR.round
  loop := hR.loop
end
end Go.Ev
/- Equations by which simp steps through code in the evaluator: activations as functions, and one equation for each kind of code and operation. -/
namespace Go.Ev
noncomputable section
variable {P : Program} {E : Env P} {G : Nat} {R : Recs} {dr : Draw} {rd : Option Nat}

/-! ### Activations as functions -/

/-- n temporaries, which f says. -/
def A (n : Nat) (f : Nat → Value) (ds : List Deferred := []) : Act := { tmps := Array.ofFn fun i : Fin n => f i, defers := ds }
def upd (f : Nat → Value) (d : Nat) (v : Value) : Nat → Value := fun i => if i = d then v else f i

theorem upd_apply (f : Nat → Value) (d : Nat) (v : Value) (i : Nat) : upd f d v i = if i = d then v else f i := rfl
theorem A_get? (n : Nat) (f : Nat → Value) (ds : List Deferred) (t : Nat) : (A n f ds).tmps[t]? = if t < n then some (f t) else none := by
  simp only [A]
  rw [Array.getElem?_ofFn]
  split <;> rfl
theorem A_getD (n : Nat) (f : Nat → Value) (ds : List Deferred) (t : Nat) : (A n f ds).tmps.getD t undef = if t < n then f t else undef := by
  rw [Array.getD_eq_getD_getElem?, A_get?]
  split <;> rfl
theorem A_tmp (n : Nat) (f : Nat → Value) (ds : List Deferred) (t : Nat) : (A n f ds).eval (.tmp t) = if t < n then f t else undef := A_getD n f ds t
theorem eval_const (a : Act) (v : Value) : a.eval (.const v) = v := rfl
theorem eval_global (a : Act) (g : Nat) : a.eval (.global g) = .pointer (some ⟨g, 0, none⟩) := rfl
theorem eval_func (a : Act) (f : FuncId) : a.eval (.func f) = .func (.func f) #[] #[] := rfl
theorem A_put (n : Nat) (f : Nat → Value) (ds : List Deferred) (d : Nat) (v : Value) : (A n f ds).put (some d) v = A n (upd f d v) ds := by
  simp only [A, Act.put, Act.mk.injEq, and_true]
  apply Array.ext
  · simp
  · intro i h1 h2
    simp only [Array.size_setIfInBounds, Array.size_ofFn] at h1
    rw [Array.getElem_setIfInBounds (by simpa using h1)]
    simp only [Array.getElem_ofFn, upd]
    by_cases h : i = d
    · simp [h]
    · simp [h, Ne.symm h]
theorem A_put_none (n : Nat) (f : Nat → Value) (ds : List Deferred) (v : Value) : (A n f ds).put none v = A n f ds := rfl
theorem A_init {args : Array Value} {n : Nat} (h : args.size ≤ n) : ({ tmps := args ++ Array.replicate (n - args.size) undef, defers := [] } : Act) = A n (fun i => args.getD i undef) := by
  simp only [A, Act.mk.injEq, and_true]
  apply Array.ext
  · simp; omega
  · intro i h1 h2
    simp only [Array.getElem_ofFn, Array.getElem_append, Array.getElem_replicate]
    by_cases hi : i < args.size <;> simp [Array.getD, hi]

/-! ### Code -/

def thenC (r : Option (Exit × Act × AHeap)) (k : Act → AHeap → Option (Exit × Act × AHeap)) : Option (Exit × Act × AHeap) :=
  match r with
  | some (.normal, a, H) => k a H
  | r => r
theorem thenC_normal (a : Act) (H : AHeap) (k) : thenC (some (.normal, a, H)) k = k a H := rfl
theorem thenC_exit (id : Nat) (a : Act) (H : AHeap) (k) : thenC (some (.exit id, a, H)) k = some (.exit id, a, H) := rfl
theorem thenC_ret (a : Act) (H : AHeap) (k) : thenC (some (.ret, a, H)) k = some (.ret, a, H) := rfl

def regC (r : Option (Act × AHeap)) : Option (Exit × Act × AHeap) :=
  match r with
  | some (a, H) => some (.normal, a, H)
  | none => none
theorem regC_some (a : Act) (H : AHeap) : regC (some (a, H)) = some (.normal, a, H) := rfl

def condC (v : Value) (x y : Act → AHeap → Option (Exit × Act × AHeap)) (a : Act) (H : AHeap) : Option (Exit × Act × AHeap) :=
  match v with
  | .bool true => x a H
  | .bool false => y a H
  | _ => none
theorem condC_true (x y) (a : Act) (H : AHeap) : condC (.bool true) x y a H = x a H := rfl
theorem condC_false (x y) (a : Act) (H : AHeap) : condC (.bool false) x y a H = y a H := rfl

def blockC (id : Nat) (r : Option (Exit × Act × AHeap)) : Option (Exit × Act × AHeap) :=
  match r with
  | some (.exit id', a', H') => if id' = id then some (.normal, a', H') else some (.exit id', a', H')
  | r => r
theorem blockC_normal (id : Nat) (a : Act) (H : AHeap) : blockC id (some (.normal, a, H)) = some (.normal, a, H) := rfl
theorem blockC_ret (id : Nat) (a : Act) (H : AHeap) : blockC id (some (.ret, a, H)) = some (.ret, a, H) := rfl
theorem blockC_exit (id id' : Nat) (a : Act) (H : AHeap) : blockC id (some (.exit id', a, H)) = if id' = id then some (.normal, a, H) else some (.exit id', a, H) := rfl

theorem evC_skip (a : Act) (H : AHeap) : evC E G R dr rd .skip a H = some (.normal, a, H) := by simp only [evC]
theorem evC_label (l) (a : Act) (H : AHeap) : evC E G R dr rd (.label l) a H = some (.normal, a, H) := by simp only [evC]
theorem evC_ret (a : Act) (H : AHeap) : evC E G R dr rd .ret a H = some (.ret, a, H) := by simp only [evC]
theorem evC_exit (id : Nat) (a : Act) (H : AHeap) : evC E G R dr rd (.exit id) a H = some (.exit id, a, H) := by simp only [evC]
theorem evC_loop (c : Code) (a : Act) (H : AHeap) : evC E G R dr rd (.loop c) a H = R.loop rd c a H := by simp only [evC]
theorem evC_seq (x y : Code) (a : Act) (H : AHeap) : evC E G R dr rd (.seq x y) a H = thenC (evC E G R dr rd x a H) (evC E G R dr rd y) := by
  simp only [evC, thenC]
  generalize evC E G R dr rd x a H = r
  rcases r with _ | ⟨e, a', H'⟩
  · rfl
  · cases e <;> rfl
theorem evC_block (id : Nat) (c : Code) (a : Act) (H : AHeap) : evC E G R dr rd (.block id c) a H = blockC id (evC E G R dr rd c a H) := by
  simp only [evC, blockC]
  generalize evC E G R dr rd c a H = r
  rcases r with _ | ⟨e, a', H'⟩
  · rfl
  · cases e <;> rfl
theorem evC_cond (c : Operand) (x y : Code) (a : Act) (H : AHeap) (h : okOpd G c = true) : evC E G R dr rd (.cond c x y) a H = condC (a.eval c) (evC E G R dr rd x) (evC E G R dr rd y) a H := by
  simp only [evC, h, if_true, condC]
  generalize a.eval c = v
  cases v with
  | bool b => cases b <;> rfl
  | _ => rfl

/-! ### Operations in a row -/

/-- The same, the whole region known by its destinations alone. -/
def opsD (E : Env P) (G : Nat) (R : Recs) (ds : List (Option Tmp)) : List Oper → Act → AHeap → Option (Act × AHeap)
  | [], a, H => some (a, H)
  | o :: os, a, H =>
    if Region.wanted o (fun j => match (ds[j]?).bind fun d => d.bind (a.tmps[·]?) with | some (.bool b) => some b | _ => none) = true then
      match evOp E G R H a o with
      | some (v, H') => opsD E G R ds os (a.put o.dst v) H'
      | none => none
    else opsD E G R ds os (a.put o.dst undef) H

theorem evOps_eq (ops : Array Oper) : ∀ (l : List Oper) (a : Act) (H : AHeap), evOps E G R ops l a H = opsD E G R (ops.toList.map (·.dst)) l a H := by
  intro l
  induction l with
  | nil => intro a H; rfl
  | cons o os ih =>
    intro a H
    simp only [evOps, opsD]
    have hy : yielded ops a.tmps = fun j => match ((ops.toList.map (·.dst))[j]?).bind fun d => d.bind (a.tmps[·]?) with | some (.bool b) => some b | _ => none := by
      funext j
      unfold yielded
      simp only [List.getElem?_map, Array.getElem?_toList]
      cases ops[j]? with
      | none => rfl
      | some o => rfl
    rw [hy]
    split
    · cases evOp E G R H a o with
      | none => rfl
      | some p => exact ih _ _
    · exact ih _ _

theorem evC_region (id : Nat) (ops : List Oper) (a : Act) (H : AHeap) : evC E G R dr rd (.region id ops.toArray false) a H = regC (opsD E G R (ops.map (·.dst)) ops a H) := by
  simp only [evC, evOps_eq, regC]
  generalize opsD E G R (ops.map (·.dst)) ops a H = r
  rcases r with _ | ⟨a', H'⟩ <;> rfl

theorem evC_draw (id : Nat) (ops : Array Oper) (a : Act) (H : AHeap) : evC E G R dr rd (.region id ops true) a H = regC (dr ops a H) := by
  simp only [evC, regC]
  generalize dr ops a H = r
  rcases r with _ | ⟨a', H'⟩ <;> rfl

def contO (r : Option (Value × AHeap)) (k : Act → AHeap → Option (Act × AHeap)) (d : Option Tmp) (a : Act) : Option (Act × AHeap) :=
  match r with
  | some (v, H) => k (a.put d v) H
  | none => none
theorem contO_some (v : Value) (H : AHeap) (k) (d : Option Tmp) (a : Act) : contO (some (v, H)) k d a = k (a.put d v) H := rfl

def guardO (b : Option Bool) (want : Bool) (r : Act → AHeap → Option (Act × AHeap)) (k : Act → AHeap → Option (Act × AHeap)) (d : Option Tmp) (a : Act) (H : AHeap) : Option (Act × AHeap) :=
  if (b == some want) = true then r a H else k (a.put d undef) H
theorem guardO_yes (b : Bool) (r k d) (a : Act) (H : AHeap) : guardO (some b) b r k d a H = r a H := by simp [guardO]
theorem guardO_tf (r k d) (a : Act) (H : AHeap) : guardO (some true) false r k d a H = k (a.put d undef) H := by simp [guardO]
theorem guardO_ft (r k d) (a : Act) (H : AHeap) : guardO (some false) true r k d a H = k (a.put d undef) H := by simp [guardO]
theorem guardO_none (w r k d) (a : Act) (H : AHeap) : guardO none w r k d a H = k (a.put d undef) H := by simp [guardO]

/-- What an operation has yielded, as a Bool. -/
def yld (ds : List (Option Tmp)) (j : Nat) (a : Act) : Option Bool :=
  match (ds[j]?).bind fun d => d.bind (a.tmps[·]?) with
  | some (.bool b) => some b
  | _ => none
def boolOf : Value → Option Bool
  | .bool b => some b
  | _ => none
theorem boolOf_bool (b : Bool) : boolOf (.bool b) = some b := rfl
theorem boolOf_undef : boolOf undef = none := rfl
theorem yld_A {ds : List (Option Tmp)} {j t n : Nat} (f : Nat → Value) (dd : List Deferred) (h : ds[j]? = some (some t)) (ht : t < n) : yld ds j (A n f dd) = boolOf (f t) := by
  unfold yld
  rw [h]
  simp only [Option.bind_some, A_get?, ht, if_true]
  cases f t <;> rfl

def yldT (d : Option (Option Tmp)) (n : Nat) (f : Nat → Value) : Option Bool :=
  match d with
  | some (some t) => if t < n then boolOf (f t) else none
  | _ => none
theorem yld_eq (ds : List (Option Tmp)) (j n : Nat) (f : Nat → Value) (dd : List Deferred) : yld ds j (A n f dd) = yldT ds[j]? n f := by
  unfold yld yldT
  cases ds[j]? with
  | none => rfl
  | some d =>
    cases d with
    | none => rfl
    | some t =>
      simp only [Option.bind_some, A_get?]
      by_cases ht : t < n
      · simp only [ht, if_true]; cases f t <;> rfl
      · simp only [ht, if_false]
theorem yldT_some (t n : Nat) (f : Nat → Value) : yldT (some (some t)) n f = if t < n then boolOf (f t) else none := rfl

def opThen (E : Env P) (G : Nat) (R : Recs) (o : Oper) (k : Act → AHeap → Option (Act × AHeap)) (a : Act) (H : AHeap) : Option (Act × AHeap) := contO (evOp E G R H a o) k o.dst a

theorem opsD_nil (ds : List (Option Tmp)) (a : Act) (H : AHeap) : opsD E G R ds [] a H = some (a, H) := rfl
theorem opsD_plain (ds : List (Option Tmp)) (d : Option Tmp) (op : Op) (ty : TypeId) (p : String) (af : Array Edge) (os : List Oper) (a : Act) (H : AHeap) :
    opsD E G R ds (⟨d, op, ty, p, af, none⟩ :: os) a H = contO (evOp E G R H a ⟨d, op, ty, p, af, none⟩) (opsD E G R ds os) d a := by
  simp only [opsD, Region.wanted, if_true, contO]
theorem opsD_guard (ds : List (Option Tmp)) (d : Option Tmp) (op : Op) (ty : TypeId) (p : String) (af : Array Edge) (j : Nat) (w : Bool) (os : List Oper) (a : Act) (H : AHeap) :
    opsD E G R ds (⟨d, op, ty, p, af, some (j, w)⟩ :: os) a H = guardO (yld ds j a) w (opThen E G R ⟨d, op, ty, p, af, some (j, w)⟩ (opsD E G R ds os)) (opsD E G R ds os) d a H := by
  simp only [opsD, Region.wanted, guardO, opThen, contO, yld]
  cases evOp E G R H a ⟨d, op, ty, p, af, some (j, w)⟩ <;> rfl
theorem opThen_eq (o : Oper) (k) (a : Act) (H : AHeap) : opThen E G R o k a H = contO (evOp E G R H a o) k o.dst a := rfl
end
end Go.Ev
/- Equations by which simp steps through operations. -/
namespace Go.Ev
noncomputable section
variable {P : Program} {E : Env P} {G : Nat} {R : Recs}

theorem ok_tmp (t : Nat) : okOpd G (.tmp t) = true := by simp [okOpd, addrFree, flat]
theorem ok_func (f : FuncId) : okOpd G (.func f) = true := by simp [okOpd, addrFree, flat]
theorem ok_int (k : IntKind) (n : Int) : okOpd G (.const (.int k n)) = true := by simp [okOpd, addrFree, flat]
theorem ok_bool (b : Bool) : okOpd G (.const (.bool b)) = true := by simp [okOpd, addrFree, flat]
theorem ok_string (s : ByteArray) : okOpd G (.const (.string s)) = true := by simp [okOpd, addrFree, flat]
theorem ok_nilSlice : okOpd G (.const (.slice none 0 0)) = true := by simp [okOpd, addrFree, flat]
theorem ok_nilPtr : okOpd G (.const (.pointer none)) = true := by simp [okOpd, addrFree, flat]
theorem ok_nilMap : okOpd G (.const (.map none)) = true := by simp [okOpd, addrFree, flat]
theorem ok_nilFunc : okOpd G (.const .nilFunc) = true := by simp [okOpd, addrFree, flat]
theorem ok_nilIface : okOpd G (.const .nilIface) = true := by simp [okOpd, addrFree, flat]
theorem ok_global (g : Nat) : okOpd G (.global g) = decide (g < G) := by simp [okOpd, addrFree, flat]
theorem ok_agg (cs : Array Value) : okOpd G (.const (.agg cs)) = cs.toList.all flat := by simp [okOpd, addrFree, flat]

def okArgs (G : Nat) : List Operand → Bool
  | [] => true
  | x :: xs => okOpd G x && okArgs G xs
theorem okArgs_nil : okArgs G [] = true := by simp [okArgs]
theorem okArgs_cons (x : Operand) (xs : List Operand) : okArgs G (x :: xs) = (okOpd G x && okArgs G xs) := by simp [okArgs]
theorem okArgs_all : ∀ (l : List Operand), okArgs G l = true → (l.all fun x => okOpd G x) = true
  | [], _ => rfl
  | x :: xs, h => by
    simp only [okArgs, Bool.and_eq_true] at h
    simp only [List.all_cons, h.1, okArgs_all xs h.2, Bool.and_true]
def okPs (G : Nat) : List (Nat × Operand) → Bool
  | [] => true
  | x :: xs => okOpd G x.2 && okPs G xs
theorem okPs_nil : okPs G [] = true := by simp [okPs]
theorem okPs_cons (i : Nat) (x : Operand) (xs : List (Nat × Operand)) : okPs G ((i, x) :: xs) = (okOpd G x && okPs G xs) := by simp [okPs]
theorem okPs_all : ∀ (l : List (Nat × Operand)), okPs G l = true → (l.all fun q => okOpd G q.2) = true
  | [], _ => rfl
  | x :: xs, h => by
    simp only [okPs, Bool.and_eq_true] at h
    simp only [List.all_cons, h.1, okPs_all xs h.2, Bool.and_true]

/-- One operation without its operands' test. -/
def evO (E : Env P) (R : Recs) (H : AHeap) (a : Act) (o : Oper) : Option (Value × AHeap) :=
  match aop E H a o with
  | some (.val v H') => some (v, H')
  | some (.call f args) => R.call f args H
  | some (.round l args) => R.round l args H
  | none => none

theorem evOp_eq {H : AHeap} {a : Act} {o : Oper} (h : o.op.operands.all (okOpd G) = true) : evOp E G R H a o = evO E R H a o := by
  unfold evOp evO
  rw [if_pos h]
  rfl

def valR (H : AHeap) : Option Value → Option (Value × AHeap)
  | some v => some (v, H)
  | none => none
def updR : Option AHeap → Option (Value × AHeap)
  | some H => some (undef, H)
  | none => none
theorem valR_some (H : AHeap) (v : Value) : valR H (some v) = some (v, H) := rfl
theorem updR_some (H : AHeap) : updR (some H) = some (undef, H) := rfl

section ops
variable (d : Option Tmp) (ty : TypeId) (p : String) (af : Array Edge) (g : Option (Nat × Bool)) (H : AHeap) (a : Act)

theorem evO_val1 {o : Oper} {r : Option Value} (h : aop E H a o = val1 H r) : evO E R H a o = valR H r := by
  unfold evO; rw [h]; cases r <;> rfl
theorem evO_val2 {o : Oper} {r : Option (Value × AHeap)} (h : aop E H a o = val2 r) : evO E R H a o = r := by
  unfold evO; rw [h]; cases r <;> rfl
theorem evO_valU {o : Oper} {r : Option AHeap} (h : aop E H a o = valU r) : evO E R H a o = updR r := by
  unfold evO; rw [h]; cases r <;> rfl

theorem op_move (x : Operand) (h : okOpd G x = true) : evOp E G R H a ⟨d, .move x, ty, p, af, g⟩ = some (a.eval x, H) := by
  rw [evOp_eq (by simp [Op.operands, h])]; rfl
theorem op_assign (x : Operand) (h : okOpd G x = true) : evOp E G R H a ⟨d, .assign x, ty, p, af, g⟩ = some (a.eval x, H) := by
  rw [evOp_eq (by simp [Op.operands, h])]; rfl

def pickR (H : AHeap) (c x y : Value) : Option (Value × AHeap) :=
  match c with
  | .bool b => some (if b then x else y, H)
  | _ => none
theorem op_pick (c x y : Operand) (hc : okOpd G c = true) (hx : okOpd G x = true) (hy : okOpd G y = true) : evOp E G R H a ⟨d, .pick c x y, ty, p, af, g⟩ = pickR H (a.eval c) (a.eval x) (a.eval y) := by
  rw [evOp_eq (by simp [Op.operands, hc, hx, hy])]
  have h1 : aop E H a ⟨d, .pick c x y, ty, p, af, g⟩ = (match a.eval c with
    | .bool b => some (.val (if b then a.eval x else a.eval y) H)
    | _ => none) := rfl
  unfold evO pickR
  rw [h1]
  generalize a.eval c = v
  cases v <;> rfl
theorem pickR_true (x y : Value) : pickR H (.bool true) x y = some (x, H) := rfl
theorem pickR_false (x y : Value) : pickR H (.bool false) x y = some (y, H) := rfl
theorem pickR_bools (b x y : Bool) : pickR H (.bool b) (.bool x) (.bool y) = some (.bool (if b then x else y), H) := by cases b <;> rfl

theorem op_box (t : TypeId) (x : Operand) (h : okOpd G x = true) : evOp E G R H a ⟨d, .box t x, ty, p, af, g⟩ = some (.pointer (some ⟨H.next, 0, none⟩), H.add (.cells (a.eval x).cells t none true [])) := by
  rw [evOp_eq (by simp [Op.operands, h])]; rfl

/-- The cells of a type's zero. -/
def zc (E : Env P) (t : TypeId) : Option (Array Value) := (E.info t).bind fun i => i.zero.bind fun z => if z.cells.toList.all flat = true then some z.cells else none
def allocR (H : AHeap) (t : TypeId) : Option (Array Value) → Option (Value × AHeap)
  | some z => some (.pointer (some ⟨H.next, 0, none⟩), H.add (.cells z t none true []))
  | none => none
theorem allocR_some (t : TypeId) (z : Array Value) : allocR H t (some z) = some (.pointer (some ⟨H.next, 0, none⟩), H.add (.cells z t none true [])) := rfl
theorem op_alloc (t : TypeId) : evOp E G R H a ⟨d, .alloc t, ty, p, af, g⟩ = allocR H t (zc E t) := by
  rw [evOp_eq (by simp [Op.operands])]
  rw [evO_val2 (r := aalloc E H t) H a (by rfl)]
  unfold aalloc zc
  cases E.info t with
  | none => rfl
  | some i =>
    simp only [Option.bind_some]
    cases i.zero with
    | none => rfl
    | some z =>
      simp only [Option.bind_some]
      split <;> rfl

/-- Is a type an aggregate, and how many cells has it? -/
def sz (E : Env P) (t : TypeId) : Option (Bool × Nat) :=
  match E.und t, E.info t with
  | some d, some i => some (descAgg d, i.size)
  | _, _ => none

def loadO (s : Option (Bool × Nat)) (o : Option AObj) (off : Nat) : Option Value :=
  match o, s with
  | some (.cells c _ _ _ _), some (b, n) => if b = true then (if off + n ≤ c.size then some (.agg (cellsOf c off n)) else none) else c[off]?
  | _, _ => none
def loadV (E : Env P) (H : AHeap) (t : TypeId) (x : Value) : Option Value := aload E H t x
theorem op_load (t : TypeId) (x : Operand) (h : okOpd G x = true) : evOp E G R H a ⟨d, .load t x, ty, p, af, g⟩ = valR H (loadV E H t (a.eval x)) := by
  rw [evOp_eq (by simp [Op.operands, h])]
  exact evO_val1 H a rfl
theorem loadV_ptr (t : TypeId) (n off : Nat) : loadV E H t (.pointer (some ⟨n, off, none⟩)) = loadO (sz E t) (H.get n) off := by
  simp only [loadV, aload, loadO, sz]
  generalize H.get n = o
  generalize E.und t = u
  generalize E.info t = i
  cases o with
  | none => cases u <;> cases i <;> rfl
  | some o => cases o <;> cases u <;> cases i <;> rfl
theorem loadO_agg (n off : Nat) (c : Array Value) (e : TypeId) (gr : Option Nat) (l : Bool) (os : List Nat) : loadO (some (true, n)) (some (.cells c e gr l os)) off = if off + n ≤ c.size then some (.agg (cellsOf c off n)) else none := rfl
theorem loadO_one (n off : Nat) (c : Array Value) (e : TypeId) (gr : Option Nat) (l : Bool) (os : List Nat) : loadO (some (false, n)) (some (.cells c e gr l os)) off = c[off]? := rfl

def fa (E : Env P) (t : TypeId) (f : Nat) : Option Nat :=
  match E.und t with
  | some (.struct fs) => match fs[f]? with
    | some fd => match E.info fd.type with
      | some i => if i.size = 0 then none else some fd.offset
      | none => none
    | none => none
  | _ => none
def faR : Option Nat → Value → Option Value
  | some d, .pointer (some ⟨n, off, none⟩) => some (.pointer (some ⟨n, off + d, none⟩))
  | _, _ => none
theorem faR_some (d n off : Nat) : faR (some d) (.pointer (some ⟨n, off, none⟩)) = some (.pointer (some ⟨n, off + d, none⟩)) := rfl
theorem op_fieldAddr (t : TypeId) (x : Operand) (f : Nat) (h : okOpd G x = true) : evOp E G R H a ⟨d, .fieldAddr t x f, ty, p, af, g⟩ = valR H (faR (fa E t f) (a.eval x)) := by
  rw [evOp_eq (by simp [Op.operands, h])]
  rw [evO_val1 (r := afieldAddr E t (a.eval x) f) H a rfl]
  congr 1
  unfold afieldAddr fa
  generalize a.eval x = v
  generalize E.und t = u
  cases u with
  | none => cases v <;> rfl
  | some dd =>
    cases dd <;> try (cases v <;> rfl)
    rename_i fs
    simp only
    generalize hq : fs[f]? = q
    have key : ∀ n off, (match fs[f]? with
        | some fd => match E.info fd.type with
          | some i => if i.size = 0 then none else some (Value.pointer (some ⟨n, off + fd.offset, none⟩))
          | none => none
        | none => none) = faR (match q with
        | some fd => match E.info fd.type with
          | some i => if i.size = 0 then none else some fd.offset
          | none => none
        | none => none) (.pointer (some ⟨n, off, none⟩)) := by
      intro n off
      rw [hq]
      cases q with
      | none => rfl
      | some fd =>
        simp only
        cases E.info fd.type with
        | none => rfl
        | some i =>
          simp only
          split <;> rfl
    have none' : ∀ r : Option Nat, ∀ v : Value, (∀ n off, v ≠ .pointer (some ⟨n, off, none⟩)) → faR r v = none := by
      intro r v hv
      unfold faR
      split
      · exact absurd rfl (hv _ _)
      · rfl
    cases v with
    | pointer x => cases x with
      | none => exact (none' _ _ (by intro n off h; cases h)).symm
      | some x =>
        obtain ⟨n, off, spot⟩ := x
        cases spot with
        | none => exact key n off
        | some s => exact (none' _ _ (by intro n off h; cases h)).symm
    | _ => exact (none' _ _ (by intro n off h; cases h)).symm

theorem op_build (t : TypeId) (ps : List (Nat × Operand)) (h : okPs G ps = true) : evOp E G R H a ⟨d, .build t ps.toArray, ty, p, af, g⟩ = valR H (abuild E t (ps.map fun q => (q.1, a.eval q.2))) := by
  rw [evOp_eq (by
    simp only [Op.operands]
    simpa using okPs_all ps h)]
  exact evO_val1 H a rfl

/-! ### Two operands -/

def sbin (op : BinOp) (x y : Value) : Option Value :=
  match op, x, y with
  | .add, .int k m, .int k' n => if k = k' then some (.int k (k.wrap (m + n))) else none
  | .sub, .int k m, .int k' n => if k = k' then some (.int k (k.wrap (m - n))) else none
  | .mul, .int k m, .int k' n => if k = k' then some (.int k (k.wrap (m * n))) else none
  | .eql, .int k m, .int k' n => if k = k' then some (.bool (decide (m = n))) else none
  | .neq, .int k m, .int k' n => if k = k' then some (.bool (!decide (m = n))) else none
  | .lss, .int k m, .int k' n => if k = k' then some (.bool (decide (m < n))) else none
  | .leq, .int k m, .int k' n => if k = k' then some (.bool (decide (m ≤ n))) else none
  | .gtr, .int k m, .int k' n => if k = k' then some (.bool (decide (n < m))) else none
  | .geq, .int k m, .int k' n => if k = k' then some (.bool (decide (n ≤ m))) else none
  | .eql, .string s, .string t => some (.bool (decide (s = t)))
  | .neq, .string s, .string t => some (.bool (!decide (s = t)))
  | _, _, _ => none

end ops

theorem sbin_add (k : IntKind) (m n : Int) : sbin .add (.int k m) (.int k n) = some (.int k (k.wrap (m + n))) := by simp [sbin]
theorem sbin_sub (k : IntKind) (m n : Int) : sbin .sub (.int k m) (.int k n) = some (.int k (k.wrap (m - n))) := by simp [sbin]
theorem sbin_mul (k : IntKind) (m n : Int) : sbin .mul (.int k m) (.int k n) = some (.int k (k.wrap (m * n))) := by simp [sbin]
theorem sbin_eql (k : IntKind) (m n : Int) : sbin .eql (.int k m) (.int k n) = some (.bool (decide (m = n))) := by simp [sbin]
theorem sbin_neq (k : IntKind) (m n : Int) : sbin .neq (.int k m) (.int k n) = some (.bool (!decide (m = n))) := by simp [sbin]
theorem sbin_lss (k : IntKind) (m n : Int) : sbin .lss (.int k m) (.int k n) = some (.bool (decide (m < n))) := by simp [sbin]
theorem sbin_leq (k : IntKind) (m n : Int) : sbin .leq (.int k m) (.int k n) = some (.bool (decide (m ≤ n))) := by simp [sbin]
theorem sbin_gtr (k : IntKind) (m n : Int) : sbin .gtr (.int k m) (.int k n) = some (.bool (decide (n < m))) := by simp [sbin]
theorem sbin_geq (k : IntKind) (m n : Int) : sbin .geq (.int k m) (.int k n) = some (.bool (decide (n ≤ m))) := by simp [sbin]
theorem sbin_eql_bool (b c : Bool) : sbin .eql (.bool b) (.bool c) = none := by simp [sbin]
theorem sbin_eql_agg (b c : Array Value) : sbin .eql (.agg b) (.agg c) = none := by simp [sbin]
theorem sbin_neq_bool (b c : Bool) : sbin .neq (.bool b) (.bool c) = none := by simp [sbin]
theorem sbin_neq_agg (b c : Array Value) : sbin .neq (.agg b) (.agg c) = none := by simp [sbin]
theorem sbin_eql_str (s u : ByteArray) : sbin .eql (.string s) (.string u) = some (.bool (decide (s = u))) := by simp [sbin]
theorem sbin_neq_str (s u : ByteArray) : sbin .neq (.string s) (.string u) = some (.bool (!decide (s = u))) := by simp [sbin]
theorem sbin_shl (x y : Value) : sbin .shl x y = none := by simp [sbin]
theorem sbin_shr (x y : Value) : sbin .shr x y = none := by simp [sbin]
theorem sbin_quo (x y : Value) : sbin .quo x y = none := by simp [sbin]
theorem sbin_rem (x y : Value) : sbin .rem x y = none := by simp [sbin]
theorem sbin_and (x y : Value) : sbin .and x y = none := by simp [sbin]
theorem sbin_or (x y : Value) : sbin .or x y = none := by simp [sbin]
theorem sbin_xor (x y : Value) : sbin .xor x y = none := by simp [sbin]
theorem sbin_andNot (x y : Value) : sbin .andNot x y = none := by simp [sbin]

section ops2
variable (d : Option Tmp) (ty : TypeId) (p : String) (af : Array Edge) (g : Option (Nat × Bool)) (H : AHeap) (a : Act)

theorem sbin_fbin {op : BinOp} {x y v : Value} (h : sbin op x y = some v) : fbin2 op x y = some v := by
  have hk : ∀ k : IntKind, Nat.beq (kindN k) (kindN k) = true := fun k => Nat.beq_refl _
  unfold sbin at h
  split at h
  all_goals first
    | (split at h
       · rename_i hkk; subst hkk; cases h; unfold fbin2; simp only [hk]
         first
           | (show some (Value.int _ (fwrap _ _)) = _; rw [fwrap_eq]; rfl)
           | (show some (Value.bool (intEq _ _)) = _; rw [intEq_eq])
           | (show some (Value.bool (!intEq _ _)) = _; rw [intEq_eq])
           | (show some (Value.bool (intLe _ _)) = _; rw [intLe_eq])
           | (show some (Value.bool (!intLe _ _)) = _; rw [intLe_eq, ← decide_not]; simp only [Int.not_le])
       · cases h)
    | (cases h; unfold fbin2; simp only [binStr, bytesEq_eq, ByteArray.toList_eq]; rename_i s t
       have : (s.data.toList == t.data.toList) = decide (s = t) := by
         by_cases hh : s = t
         · subst hh; simp
         · have h3 : s.data.toList ≠ t.data.toList := by
             intro e
             apply hh
             cases s; cases t
             simp at e
             rw [e]
           simpa [hh] using h3
       simp only [this])
    | cases h

theorem aeqNil_sbin {t : TypeId} {op : BinOp} {x y v : Value} (h : sbin op x y = some v) : aeqNil E t x y = none := by
  unfold sbin at h
  unfold aeqNil
  generalize E.und t = u
  split at h <;> first
    | (cases u with
        | none => rfl
        | some u => cases u <;> rfl)
    | cases h

/-- An operation that these equations do not reach. -/
def rawO (E : Env P) (G : Nat) (R : Recs) (H : AHeap) (a : Act) (o : Oper) : Option (Value × AHeap) := evOp E G R H a o

def binR (H : AHeap) (r : Option Value) (raw : Option (Value × AHeap)) : Option (Value × AHeap) :=
  match r with
  | some v => some (v, H)
  | none => raw
theorem binR_some (v : Value) (raw) : binR H (some v) raw = some (v, H) := rfl
theorem binR_none (raw) : binR H none raw = raw := rfl

def isAggOrBool : Value → Bool
  | .bool _ | .agg _ => true
  | _ => false
def isEq : BinOp → Bool
  | .eql | .neq => true
  | _ => false
/-- Equality of aggregates and of Bools. -/
def cmpF (P : Program) (op : BinOp) (t : TypeId) (vx vy : Value) : Option Value :=
  if (isEq op && isAggOrBool vx && isAggOrBool vy && addrFree vx && addrFree vy) = true then
    match pureRun P (do eqGuard op t (.tmp 0) (.tmp 0) vx vy; binOp op t vx vy) with
    | some v => if addrFree v = true then some v else none
    | none => none
  else none

/-- Division and shifts. -/
def sarith (op : BinOp) (x y : Value) : Option Value :=
  match op, x, y with
  | .shl, .int k m, .int _ n => if n < 0 then none else some (.int k (k.wrap (m * 2 ^ min n.toNat k.bits)))
  | .shr, .int k m, .int _ n => if n < 0 then none else some (.int k (m.fdiv (2 ^ min n.toNat k.bits)))
  | .quo, .int k m, .int k' n => if k = k' then (if n = 0 then none else some (.int k (k.wrap (m.tdiv n)))) else none
  | .rem, .int k m, .int k' n => if k = k' then (if n = 0 then none else some (.int k (m.tmod n))) else none
  | _, _, _ => none

theorem apure_of_run {op : BinOp} {t yt : TypeId} {x y : Operand} {v : Value} {o : Oper} (ho : o.op = .binOp op t x y yt)
    (h1 : pureRun P (do pure (Next.value (← (do eqGuard op t x y (a.eval x) (a.eval y); binOp op t (a.eval x) (a.eval y))))) = some (.value v)) (h2 : addrFree (a.eval x) = true) (h3 : addrFree (a.eval y) = true) (h4 : addrFree v = true) :
    apure P H a o = some (.val v H) := by
  have he : pureRun P (execOp a.eval o) = some (.value v) := by
    unfold execOp; rw [ho]; exact h1
  unfold apure
  have hall : (o.op.operands.all fun x => addrFree (a.eval x)) = true := by
    rw [ho]; simp [Op.operands, h2, h3]
  rw [if_pos hall, he]
  simp [h4]

theorem apure_sbin {op : BinOp} {t yt : TypeId} {x y : Operand} {v : Value} {o : Oper} (ho : o.op = .binOp op t x y yt) (h : sbin op (a.eval x) (a.eval y) = some v) : apure P H a o = some (.val v H) := by
  obtain ⟨h1, h2, h3, h4⟩ := fbin2_ok (P := P) (t := t) (x := x) (y := y) (sbin_fbin h)
  exact apure_of_run H a ho h1 h2 h3 h4

theorem cmpF_ok {op : BinOp} {t yt : TypeId} {x y : Operand} {v : Value} {o : Oper} (ho : o.op = .binOp op t x y yt) (h : cmpF P op t (a.eval x) (a.eval y) = some v) :
    apure P H a o = some (.val v H) ∧ aeqNil E t (a.eval x) (a.eval y) = none := by
  unfold cmpF at h
  split at h
  case isFalse => cases h
  rename_i hc
  simp only [Bool.and_eq_true] at hc
  obtain ⟨⟨⟨⟨c1, c2⟩, c3⟩, c4⟩, c5⟩ := hc
  split at h
  case h_2 => cases h
  rename_i v' hr
  split at h
  case isFalse => cases h
  rename_i hv
  cases h
  refine ⟨apure_of_run H a ho ?_ c4 c5 hv, ?_⟩
  · have e : eqGuard op t x y (a.eval x) (a.eval y) = eqGuard op t (.tmp 0) (.tmp 0) (a.eval x) (a.eval y) := by
      generalize a.eval x = vx at *
      generalize a.eval y = vy at *
      unfold eqGuard
      cases vx <;> simp [isAggOrBool] at c2 <;> cases vy <;> simp [isAggOrBool] at c3 <;> rfl
    rw [e, pureRun_bind, hr]
    rfl
  · generalize a.eval x = vx at *
    generalize a.eval y = vy at *
    unfold aeqNil
    generalize E.und t = u
    cases vx <;> simp [isAggOrBool] at c2 <;> cases vy <;> simp [isAggOrBool] at c3 <;> (cases u with
        | none => rfl
        | some u => cases u <;> rfl)

theorem sarith_ok {op : BinOp} {t yt : TypeId} {x y : Operand} {v : Value} {o : Oper} (ho : o.op = .binOp op t x y yt) (h : sarith op (a.eval x) (a.eval y) = some v) :
    apure P H a o = some (.val v H) ∧ aeqNil E t (a.eval x) (a.eval y) = none := by
  have key : pureRun P (do eqGuard op t x y (a.eval x) (a.eval y); binOp op t (a.eval x) (a.eval y)) = some v ∧ addrFree (a.eval x) = true ∧ addrFree (a.eval y) = true ∧ addrFree v = true ∧ aeqNil E t (a.eval x) (a.eval y) = none := by
    generalize a.eval x = vx at *
    generalize a.eval y = vy at *
    have hn : ∀ k m k' n, aeqNil E t (.int k m) (.int k' n) = none := by
      intro k m k' n
      unfold aeqNil
      generalize E.und t = u
      cases u with
      | none => rfl
      | some u => cases u <;> rfl
    unfold sarith at h
    split at h
    · split at h
      · cases h
      · rename_i hh; cases h
        refine ⟨?_, rfl, rfl, rfl, hn _ _ _ _⟩
        simp only [eqGuard, binOp, Op.shift, hh, if_false]
        rfl
    · split at h
      · cases h
      · rename_i hh; cases h
        refine ⟨?_, rfl, rfl, rfl, hn _ _ _ _⟩
        simp only [eqGuard, binOp, Op.shift, hh, if_false]
        rfl
    · split at h
      · rename_i hk; subst hk
        split at h
        · cases h
        · rename_i hh; cases h
          refine ⟨?_, rfl, rfl, rfl, hn _ _ _ _⟩
          simp only [eqGuard, binOp, Op.intDiv, hh, if_false, ne_eq, not_true_eq_false]
          rfl
      · cases h
    · split at h
      · rename_i hk; subst hk
        split at h
        · cases h
        · rename_i hh; cases h
          refine ⟨?_, rfl, rfl, rfl, hn _ _ _ _⟩
          simp only [eqGuard, binOp, Op.intDiv, hh, if_false, ne_eq, not_true_eq_false]
          rfl
      · cases h
    · cases h
  obtain ⟨h1, h2, h3, h4, h5⟩ := key
  refine ⟨apure_of_run H a ho ?_ h2 h3 h4, h5⟩
  rw [pureRun_bind, h1]
  rfl

theorem op_bin (op : BinOp) (t yt : TypeId) (x y : Operand) (hx : okOpd G x = true) (hy : okOpd G y = true) :
    evOp E G R H a ⟨d, .binOp op t x y yt, ty, p, af, g⟩ = binR H (sbin op (a.eval x) (a.eval y)) (binR H (sarith op (a.eval x) (a.eval y)) (binR H (cmpF P op t (a.eval x) (a.eval y)) (rawO E G R H a ⟨d, .binOp op t x y yt, ty, p, af, g⟩))) := by
  have fin : ∀ v, apure P H a ⟨d, .binOp op t x y yt, ty, p, af, g⟩ = some (.val v H) → aeqNil E t (a.eval x) (a.eval y) = none → evOp E G R H a ⟨d, .binOp op t x y yt, ty, p, af, g⟩ = some (v, H) := by
    intro v hp hn
    rw [evOp_eq (by simp [Op.operands, hx, hy])]
    have h1 : aop E H a ⟨d, .binOp op t x y yt, ty, p, af, g⟩ = abin E H a ⟨d, .binOp op t x y yt, ty, p, af, g⟩ op t x y := rfl
    have h2 : abin E H a ⟨d, .binOp op t x y yt, ty, p, af, g⟩ op t x y = some (.val v H) := by
      unfold abin
      cases op <;> simp only [hn, hp]
    unfold evO
    rw [h1, h2]
  cases h : sbin op (a.eval x) (a.eval y) with
  | some v => exact fin v (apure_sbin H a rfl h) (aeqNil_sbin h)
  | none =>
    simp only [binR]
    cases h2 : sarith op (a.eval x) (a.eval y) with
    | some v =>
      obtain ⟨q1, q2⟩ := sarith_ok (E := E) (P := P) H a (o := ⟨d, .binOp op t x y yt, ty, p, af, g⟩) rfl h2
      exact fin v q1 q2
    | none =>
    simp only
    cases h' : cmpF P op t (a.eval x) (a.eval y) with
    | none => rfl
    | some v =>
      obtain ⟨q1, q2⟩ := cmpF_ok (E := E) (P := P) H a (o := ⟨d, .binOp op t x y yt, ty, p, af, g⟩) rfl h'
      exact fin v q1 q2

/-! ### Calls of functions -/

theorem op_callF (f : FuncId) (args : List Operand) (ats : Array TypeId) (h : okArgs G args = true) :
    evOp E G R H a ⟨d, .call ⟨.value (.func f), args.toArray, ats⟩, ty, p, af, g⟩ = if (E.func f).isSome = true then R.call f (args.map a.eval).toArray H else none := by
  rw [evOp_eq (by
    show (#[Operand.func f] ++ args.toArray).all (okOpd G) = true
    have h' : (args.all fun x => okOpd G x) = true := okArgs_all args h
    simp only [Array.all_append, List.all_toArray, h', Bool.and_true]
    rfl)]
  have h1 : aop E H a ⟨d, .call ⟨.value (.func f), args.toArray, ats⟩, ty, p, af, g⟩ = (match E.func f with
    | some _ => some (.call f (#[] ++ args.toArray.map a.eval ++ #[]))
    | none => none) := rfl
  unfold evO
  rw [h1]
  cases E.func f <;> simp
end ops2

theorem sarith_shl (k q : IntKind) (m n : Int) (h : 0 ≤ n) : sarith .shl (.int k m) (.int q n) = some (.int k (k.wrap (m * 2 ^ min n.toNat k.bits))) := by
  simp only [sarith]; rw [if_neg (by omega)]
theorem sarith_shr (k q : IntKind) (m n : Int) (h : 0 ≤ n) : sarith .shr (.int k m) (.int q n) = some (.int k (m.fdiv (2 ^ min n.toNat k.bits))) := by
  simp only [sarith]; rw [if_neg (by omega)]
theorem sarith_quo (k : IntKind) (m n : Int) (h : n ≠ 0) : sarith .quo (.int k m) (.int k n) = some (.int k (k.wrap (m.tdiv n))) := by
  simp [sarith, h]
theorem sarith_rem (k : IntKind) (m n : Int) (h : n ≠ 0) : sarith .rem (.int k m) (.int k n) = some (.int k (m.tmod n)) := by
  simp [sarith, h]
theorem sarith_eql (x y : Value) : sarith .eql x y = none := by simp [sarith]
theorem sarith_neq (x y : Value) : sarith .neq x y = none := by simp [sarith]
theorem sarith_and (x y : Value) : sarith .and x y = none := by simp [sarith]
theorem sarith_or (x y : Value) : sarith .or x y = none := by simp [sarith]
theorem sarith_xor (x y : Value) : sarith .xor x y = none := by simp [sarith]
theorem sarith_andNot (x y : Value) : sarith .andNot x y = none := by simp [sarith]
theorem bits_i64 : IntKind.i64.bits = 64 := rfl
theorem bits_u8 : IntKind.u8.bits = 8 := rfl
theorem bits_u64 : IntKind.u64.bits = 64 := rfl
end
end Go.Ev
/- Equality of structs, field by field. -/
namespace Go.Ev
noncomputable section
variable {P : Program}

theorem pr_pure {α : Type} (x : α) : pureRun P (pure x : Sem α) = some x := rfl
theorem pr_und {t : TypeId} {d : TypeDesc} (h : P.underlying t = some d) : pureRun P (underlying t) = some d := by
  have e : pureRun P (underlying t) = pureRun P (match P.underlying t with | some d => pure d | none => stuck "no such type") := rfl
  rw [e, h]; rfl

/-- Equality at a type, to so many levels. -/
def pEq (P : Program) (d : Nat) (t : TypeId) (x y : Value) : Option Bool := pureRun P (Op.equalIn d t x y)

theorem pEq_int (d : Nat) {t : TypeId} {k : IntKind} (h : P.underlying t = some (.int k)) (q : IntKind) (m n : Int) : pEq P (d + 1) t (.int q m) (.int q n) = some (m == n) := by
  unfold pEq
  rw [Op.equalIn, pureRun_bind, pr_und h]
  simp only [Option.bind_some, if_true, pr_pure]
theorem pEq_string (d : Nat) {t : TypeId} (h : P.underlying t = some .string) (s u : ByteArray) : pEq P (d + 1) t (.string s) (.string u) = some (s == u) := by
  unfold pEq
  rw [Op.equalIn, pureRun_bind, pr_und h]
  simp only [Option.bind_some, pr_pure]
theorem pEq_bool (d : Nat) {t : TypeId} (h : P.underlying t = some .bool) (b c : Bool) : pEq P (d + 1) t (.bool b) (.bool c) = some (b == c) := by
  unfold pEq
  rw [Op.equalIn, pureRun_bind, pr_und h]
  simp only [Option.bind_some, pr_pure]

/-- A part of a row of cells. -/
def pPart (P : Program) (t : TypeId) (cs : Array Value) (off : Nat) : Option Value := pureRun P (part t cs off)
theorem pPart_one {t : TypeId} {d : TypeDesc} (h : P.underlying t = some d) (ha : descAgg d = false) (cs : Array Value) (off : Nat) : pPart P t cs off = cs[off]? := by
  unfold pPart part
  have e : pureRun P (isAgg t) = some false := by
    unfold isAgg
    rw [pureRun_bind, pr_und h]
    cases d <;> first | rfl | (simp [descAgg] at ha)
  rw [pureRun_bind, e]
  simp only [Option.bind_some, Bool.false_eq_true, if_false]
  cases cs[off]? <;> rfl

def pFields (P : Program) (d : Nat) (xs ys : Array Value) : List Field → Option Bool
  | [] => some true
  | f :: fs =>
    if f.name ≠ "_" then
      (pPart P f.type xs f.offset).bind fun a => (pPart P f.type ys f.offset).bind fun b => (pEq P d f.type a b).bind fun e => if e then pFields P d xs ys fs else some false
    else pFields P d xs ys fs

theorem pEq_struct (d : Nat) {t : TypeId} {fs : Array Field} (h : P.underlying t = some (.struct fs)) (hs : P.stoodInHeld t = false) (xs ys : Array Value) : pEq P (d + 1) t (.agg xs) (.agg ys) = pFields P d xs ys fs.toList := by
  unfold pEq
  rw [Op.equalIn, pureRun_bind, pr_und h]
  simp only [Option.bind_some]
  rw [pureRun_bind]
  have e : pureRun P program = some P := rfl
  rw [e]
  simp only [Option.bind_some, hs, Bool.false_eq_true, if_false]
  rw [← Array.forIn_toList]
  rw [pureRun_bind]
  have key : ∀ l : List Field, (pureRun P (forIn l ((none : Option Bool), ()) fun f __s =>
      if f.name ≠ "_" then do
        let __do_lift ← part f.type xs f.offset
        let __do_lift_1 ← part f.type ys f.offset
        let __do_lift ← Op.equalIn d f.type __do_lift __do_lift_1
        if (!__do_lift) = true then pure (ForInStep.done (some false, ()))
          else pure (ForInStep.yield (none, ()))
      else pure (ForInStep.yield (none, ())))).bind (fun s => pureRun P (match s.1 with | some r => pure r | none => pure true)) = pFields P d xs ys l := by
    intro l
    induction l with
    | nil => rfl
    | cons f l ih =>
      rw [List.forIn_cons]
      by_cases hn : f.name ≠ "_"
      · simp only [hn, ne_eq, not_false_eq_true, if_true, pFields, pureRun_bind]
        show ((((pPart P f.type xs f.offset).bind _).bind _).bind _) = _
        cases pPart P f.type xs f.offset with
        | none => rfl
        | some a =>
          simp only [Option.bind_some]
          show ((((pPart P f.type ys f.offset).bind _).bind _).bind _) = _
          cases pPart P f.type ys f.offset with
          | none => rfl
          | some b =>
            simp only [Option.bind_some]
            show ((((pEq P d f.type a b).bind _).bind _).bind _) = _
            cases pEq P d f.type a b with
            | none => rfl
            | some e =>
              cases e with
              | true => simp only [Option.bind_some, Bool.not_true, Bool.false_eq_true, if_false, pr_pure, if_true]; exact ih
              | false => simp only [Option.bind_some, Bool.not_false, if_true, pr_pure, Bool.false_eq_true, if_false]
      · simp only [hn, if_false, pFields, pureRun_bind, pr_pure, Option.bind_some]
        exact ih
  rw [← key fs.toList]
  congr 1
  funext s
  obtain ⟨r, u⟩ := s
  cases r <;> rfl

theorem cmpF_bool {t : TypeId} (h : P.underlying t = some .bool) (b c : Bool) : cmpF P .eql t (.bool b) (.bool c) = some (.bool (b == c)) := by
  have e : pureRun P (do eqGuard .eql t (.tmp 0) (.tmp 0) (.bool b) (.bool c); binOp .eql t (.bool b) (.bool c)) = some (.bool (b == c)) := by
    have e1 : (do eqGuard .eql t (.tmp 0) (.tmp 0) (.bool b) (.bool c); binOp .eql t (.bool b) (.bool c) : Sem Value) = (do pure (.bool (← Op.equalIn (9999 + 1) t (.bool b) (.bool c)))) := rfl
    rw [e1, pureRun_bind]
    show (pEq P (9999 + 1) t (.bool b) (.bool c)).bind _ = _
    rw [pEq_bool _ h]; rfl
  unfold cmpF
  rw [e]; rfl

def eqRes (op : BinOp) (r : Bool) : Bool := match op with | .neq => !r | _ => r

theorem cmpF_agg {op : BinOp} {t : TypeId} {xs ys : Array Value} {r : Bool} (ho : isEq op = true) (hg : P.eqGuardType P.depth t = false) (hx : xs.toList.all flat = true) (hy : ys.toList.all flat = true) (he : pEq P (9999 + 1) t (.agg xs) (.agg ys) = some r) :
    cmpF P op t (.agg xs) (.agg ys) = some (.bool (eqRes op r)) := by
  have eg : pureRun P (eqGuard op t (.tmp 0) (.tmp 0) (.agg xs) (.agg ys)) = some () := by
    unfold eqGuard
    cases op <;> simp [isEq] at ho
    all_goals
      simp only [Bool.not_true, Bool.false_eq_true, if_false]
      rw [pureRun_bind]
      have e : pureRun P program = some P := rfl
      rw [e]
      simp only [Option.bind_some]
      rw [pureRun_bind, e]
      simp only [Option.bind_some, hg, Bool.not_false, if_true]
      rfl
  have e : pureRun P (do eqGuard op t (.tmp 0) (.tmp 0) (.agg xs) (.agg ys); binOp op t (.agg xs) (.agg ys)) = some (.bool (eqRes op r)) := by
    rw [pureRun_bind, eg]
    simp only [Option.bind_some]
    cases op <;> simp [isEq] at ho
    · show pureRun P (Op.equalIn (9999 + 1) t (.agg xs) (.agg ys) >>= fun b => pure (Value.bool b)) = _
      rw [pureRun_bind]
      show (pEq P (9999 + 1) t (.agg xs) (.agg ys)).bind _ = _
      rw [he]; rfl
    · show pureRun P (Op.equalIn (9999 + 1) t (.agg xs) (.agg ys) >>= fun b => pure (Value.bool (!b))) = _
      rw [pureRun_bind]
      show (pEq P (9999 + 1) t (.agg xs) (.agg ys)).bind _ = _
      rw [he]; rfl
  have hc : (isEq op && isAggOrBool (.agg xs) && isAggOrBool (.agg ys) && addrFree (.agg xs) && addrFree (.agg ys)) = true := by
    show (isEq op && true && true && xs.toList.all flat && ys.toList.all flat) = true
    rw [ho, hx, hy]; rfl
  unfold cmpF
  rw [if_pos hc, e]
  rfl
end
end Go.Ev
/- Equations by which simp steps through a region that draws its order. -/
namespace Go.Ev
noncomputable section
variable {P : Program} {E : Env P} {G : Nat} {R : Recs}

/-- An operation that is no act comes to a value. -/
theorem val1_val {H : AHeap} {r : Option Value} {q : OpRes} (h : val1 H r = some q) : ∃ v H', q = .val v H' := by
  cases r with
  | none => cases h
  | some v => cases h; exact ⟨_, _, rfl⟩
theorem val2_val {r : Option (Value × AHeap)} {q : OpRes} (h : val2 r = some q) : ∃ v H', q = .val v H' := by
  cases r with
  | none => cases h
  | some v => cases h; exact ⟨_, _, rfl⟩
theorem valU_val {r : Option AHeap} {q : OpRes} (h : valU r = some q) : ∃ v H', q = .val v H' := by
  cases r with
  | none => cases h
  | some v => cases h; exact ⟨_, _, rfl⟩
theorem apure_val {H : AHeap} {a : Act} {o : Oper} {q : OpRes} (h : apure P H a o = some q) : ∃ v H', q = .val v H' := by
  unfold apure at h
  split at h
  · split at h
    · split at h
      · cases h; exact ⟨_, _, rfl⟩
      · cases h
    · cases h
  · cases h
theorem abin_val {H : AHeap} {a : Act} {o : Oper} {op : BinOp} {t : TypeId} {x y : Operand} {q : OpRes} (h : abin E H a o op t x y = some q) : ∃ v H', q = .val v H' := by
  unfold abin at h
  split at h
  · split at h
    · cases h; exact ⟨_, _, rfl⟩
    · exact apure_val h
  · split at h
    · cases h; exact ⟨_, _, rfl⟩
    · exact apure_val h
  · exact apure_val h

def notActs : Kind → Bool
  | .acts => false
  | _ => true

theorem aop_val {H : AHeap} {a : Act} {o : Oper} {q : OpRes} (hk : notActs (kindOf o.op) = true) (h : aop E H a o = some q) : ∃ v H', q = .val v H' := by
  unfold aop at h
  split at h
  all_goals first
    | (cases h; done)
    | exact val1_val h
    | exact val2_val h
    | exact valU_val h
    | exact apure_val h
    | exact abin_val h
    | (cases h; exact ⟨_, _, rfl⟩)
    | (split at h <;> first
        | (cases h; exact ⟨_, _, rfl⟩)
        | exact val1_val h
        | exact apure_val h
        | cases h)
    | skip
  rename_i c ho
  rw [ho] at hk
  simp only [kindOf, callKind] at hk
  unfold acall at h
  split at h
  · split at h
    all_goals first
      | exact apure_val h
      | (split at h <;> first
          | exact val1_val h
          | exact val2_val h
          | exact valU_val h
          | cases h)
      | cases h
  · rename_i hc; rw [hc] at hk; simp [notActs] at hk
  · rename_i hc; rw [hc] at hk; simp [notActs] at hk

theorem evOp_aop {H H' : AHeap} {a : Act} {o : Oper} {v : Value} (hk : notActs (kindOf o.op) = true) (h : evOp E G R H a o = some (v, H')) : o.op.operands.all (okOpd G) = true ∧ aop E H a o = some (.val v H') := by
  unfold evOp at h
  split at h
  case isFalse => cases h
  rename_i ho
  refine ⟨ho, ?_⟩
  split at h
  · rename_i hq; cases h; exact hq
  · rename_i hq
    obtain ⟨_, _, e⟩ := aop_val hk hq
    cases e
  · rename_i hq
    obtain ⟨_, _, e⟩ := aop_val hk hq
    cases e
  · cases h

/-! ### The steps -/

def calmR (s : DState) (d : Option Tmp) (r : Option (Value × AHeap)) : Option DState :=
  match r with
  | some (v, _) => some { s with a := s.a.put d v }
  | none => none
def stillR (ord : Bool) (s : DState) (i : Nat) (o : Oper) (r : Option (Value × AHeap)) : Option DState :=
  match r with
  | some (v, _) => some { s with a := s.a.put o.dst v, stills := if ord = true then s.stills else (i, o, s.a, v) :: s.stills }
  | none => none
def freshR (s : DState) (i n : Nat) (d : Option Tmp) (r : Option (Value × AHeap)) : Option DState :=
  match r with
  | some (v, H) => match H.get n with
    | some ob => some { s with a := s.a.put d v, news := (i, ob) :: s.news }
    | none => none
  | none => none
def actsR (ok : Bool) (s : DState) (i : Nat) (d : Option Tmp) (r : Option (Value × AHeap)) : Option DState :=
  if ok = true then
    match r with
    | some (v, H') => some { s with a := s.a.put d v, H := H', acts := i :: s.acts, hist := (H', i :: s.acts) :: s.hist }
    | none => none
  else none

def kindR (E : Env P) (G : Nat) (R : Recs) (ordf : Nat → Bool) (anc : Array Nat) (base : Nat) (k : Kind) (o : Oper) (i : Nat) (s : DState) : Option DState :=
  match k with
  | .calm => calmR s o.dst (evOp E G R s.H s.a o)
  | .still => stillR (ordf i) s i o (evOp E G R (heapFor anc base i s) s.a o)
  | .fresh => freshR s i (base + i) o.dst (evOp E G R ⟨.leaf, base + i⟩ s.a o)
  | .acts => actsR (s.acts.all fun q => (anc.getD i 0).testBit q) s i o.dst (evOp E G R (heapFor anc base i s) s.a o)

def skipR (s : DState) (d : Option Tmp) : DState := { s with a := s.a.put d undef }

def goD (E : Env P) (G : Nat) (R : Recs) (ds : List (Option Tmp)) (ordf : Nat → Bool) (anc : Array Nat) (base : Nat) : List Oper → Nat → DState → Option DState
  | [], _, s => some s
  | o :: os, i, s =>
    match (if Region.wanted o (fun j => yld ds j s.a) = true then kindR E G R ordf anc base (kindOf o.op) o i s else some (skipR s o.dst)) with
    | some s' => goD E G R ds ordf anc base os (i + 1) s'
    | none => none

theorem kindR_drawStep {ops : Array Oper} {anc : Array Nat} {base : Nat} {o : Oper} {i : Nat} {s s' : DState} {ordf : Nat → Bool} (ho : ordf i = ordered ops anc i)
    (h : (if Region.wanted o (fun j => yld (ops.toList.map (·.dst)) j s.a) = true then kindR E G R ordf anc base (kindOf o.op) o i s else some (skipR s o.dst)) = some s') : drawStep E G R ops anc base o i s = some s' := by
  have hy : yielded ops s.a.tmps = fun j => yld (ops.toList.map (·.dst)) j s.a := by
    funext j
    unfold yielded yld
    simp only [List.getElem?_map, Array.getElem?_toList]
    cases ops[j]? with
    | none => rfl
    | some o => rfl
  unfold drawStep
  rw [hy]
  split at h
  case isFalse hw => rw [if_neg hw]; exact h
  case isTrue hw =>
  rw [if_pos hw]
  unfold kindR at h
  split at h
  · rename_i hk
    unfold calmR at h
    split at h
    · rename_i v H' he
      obtain ⟨q1, q2⟩ := evOp_aop (by rw [hk]; rfl) he
      rw [if_pos q1]
      simp only [hk, q2]
      exact h
    · cases h
  · rename_i hk
    unfold stillR at h
    split at h
    · rename_i v H' he
      obtain ⟨q1, q2⟩ := evOp_aop (by rw [hk]; rfl) he
      rw [if_pos q1]
      simp only [hk, q2]
      rw [ho] at h
      exact h
    · cases h
  · rename_i hk
    unfold freshR at h
    split at h
    · rename_i v H' he
      obtain ⟨q1, q2⟩ := evOp_aop (by rw [hk]; rfl) he
      rw [if_pos q1]
      split at h
      · rename_i ob hob
        have : anew E s.a o (base + i) = some (v, ob) := by
          unfold anew
          rw [q2]
          simp only [hob]
        simp only [hk, this]
        exact h
      · cases h
    · cases h
  · rename_i hk
    unfold actsR at h
    split at h
    case isFalse => cases h
    rename_i hok
    split at h
    · rename_i v H' he
      have q1 : o.op.operands.all (okOpd G) = true := by
        unfold evOp at he
        split at he
        · assumption
        · cases he
      rw [if_pos q1]
      simp only [hk, hok, if_true, he]
      exact h
    · cases h

theorem goD_drawGo {ops : Array Oper} {anc : Array Nat} {base : Nat} {ordf : Nat → Bool} (n : Nat) (ho : ∀ i, i < n → ordf i = ordered ops anc i) : ∀ (l : List Oper) (i : Nat) (s s' : DState), i + l.length ≤ n →
    goD E G R (ops.toList.map (·.dst)) ordf anc base l i s = some s' → drawGo E G R ops anc base l i s = some s'
  | [], _, _, _, _, h => h
  | o :: os, i, s, s', hn, h => by
    simp only [goD] at h
    split at h
    · rename_i s1 hs
      have h1 := kindR_drawStep (E := E) (G := G) (R := R) (ops := ops) (ho i (by simp at hn; omega)) hs
      simp only [drawGo, h1]
      exact goD_drawGo n ho os (i + 1) s1 s' (by simp at hn; omega) h
    · cases h

def sameR (r : Option (Value × AHeap)) (v : Value) : Bool :=
  match r with
  | some (u, _) => veq 3 u v
  | none => false
def stillOk (E : Env P) (G : Nat) (R : Recs) (anc : Array Nat) (base : Nat) (s : DState) (i : Nat) (o : Oper) (a : Act) (v : Value) (H : AHeap) (acts : List Nat) : Bool :=
  acts.any (fun q => (anc.getD q 0).testBit i) || s.acts.any (fun q => !acts.contains q && (anc.getD i 0).testBit q) ||
    (notActs (kindOf o.op) && sameR (evOp E G R (heapAt anc base H acts (fun j => (anc.getD i 0).testBit j) s.news) a o) v)
def stillsOk (E : Env P) (G : Nat) (R : Recs) (anc : Array Nat) (base : Nat) (s : DState) : List (Nat × Oper × Act × Value) → Bool
  | [] => true
  | x :: xs => (s.hist.all fun h => stillOk E G R anc base s x.1 x.2.1 x.2.2.1 x.2.2.2 h.1 h.2) && stillsOk E G R anc base s xs
def newsOk (anc : Array Nat) (base : Nat) (s : DState) : List (Nat × AObj) → Bool
  | [] => true
  | x :: xs => (s.hist.all fun h => absorbed anc h.2 x.1 || (h.1.get (base + x.1)).isNone) && newsOk anc base s xs

theorem stillsOk_all (anc : Array Nat) (base : Nat) (s : DState) : ∀ l, stillsOk E G R anc base s l = true →
    (l.all fun (i, o, a, v) => s.hist.all fun (H, acts) =>
    acts.any (fun q => (anc.getD q 0).testBit i) || s.acts.any (fun q => !acts.contains q && (anc.getD i 0).testBit q) ||
      (match aop E (heapAt anc base H acts (fun j => (anc.getD i 0).testBit j) s.news) a o with
        | some (.val u _) => veq 3 u v
        | _ => false)) = true
  | [], _ => rfl
  | (i, o, a, v) :: l, h => by
    simp only [stillsOk, Bool.and_eq_true] at h
    rw [List.all_cons, Bool.and_eq_true]
    refine ⟨?_, stillsOk_all anc base s l h.2⟩
    rw [List.all_eq_true] at h ⊢
    intro x hx
    have := h.1 x hx
    obtain ⟨H, acts⟩ := x
    unfold stillOk at this
    simp only [Bool.or_eq_true, Bool.and_eq_true] at this ⊢
    rcases this with h1 | ⟨hk, h2⟩
    · exact .inl h1
    · right
      unfold sameR at h2
      split at h2
      · rename_i u H' he
        rw [(evOp_aop hk he).2]
        exact h2
      · cases h2

theorem newsOk_all (anc : Array Nat) (base : Nat) (s : DState) : ∀ l, newsOk anc base s l = true → (l.all fun (j, _) => s.hist.all fun (H, acts) => absorbed anc acts j || (H.get (base + j)).isNone) = true
  | [], _ => rfl
  | (j, o) :: l, h => by
    simp only [newsOk, Bool.and_eq_true] at h
    rw [List.all_cons, Bool.and_eq_true]
    exact ⟨h.1, newsOk_all anc base s l h.2⟩

def finD (E : Env P) (G : Nat) (R : Recs) (anc : Array Nat) (base : Nat) (r : Option DState) (raw : Option (Act × AHeap)) : Option (Act × AHeap) :=
  match r with
  | some s => if (stillsOk E G R anc base s s.stills && newsOk anc base s s.news) = true then some (s.a, heapAt anc base s.H s.acts (fun _ => true) s.news) else raw
  | none => raw

def bump (H : AHeap) (n : Nat) : AHeap := { H with next := H.next + n }
theorem get_bump (H : AHeap) (n m : Nat) : (bump H n).get m = H.get m := rfl
theorem next_bump (H : AHeap) (n : Nat) : (bump H n).next = H.next + n := rfl

def rawD (E : Env P) (G : Nat) (R : Recs) (ops : Array Oper) (a : Act) (H : AHeap) : Option (Act × AHeap) := evDraw E G R ops a H

/-- A region that draws its order, stepped through in the order of its text. -/
theorem evDraw_eq {ops : Array Oper} {anc : Array Nat} {ordL : List Bool} {n : Nat} (hd : drawable ops = true) (ha : ancOf ops = anc) (hn : ops.size = n) (ho : (List.range n).map (ordered ops anc) = ordL) (a : Act) (H : AHeap) :
    evDraw E G R ops a H = finD E G R anc H.next (goD E G R (ops.toList.map (·.dst)) (fun i => ordL.getD i false) anc H.next ops.toList 0 ⟨a, bump H n, [], [], [], [(bump H n, [])]⟩) (rawD E G R ops a H) := by
  unfold finD
  split
  case h_2 => rfl
  rename_i s hs
  split
  case isFalse => rfl
  rename_i hst
  rw [Bool.and_eq_true] at hst
  subst ha hn
  have ho' : ∀ i, i < ops.size → (fun i => ordL.getD i false) i = ordered ops (ancOf ops) i := by
    intro i hi
    rw [← ho]
    simp [hi]
  have hg := goD_drawGo ops.size ho' ops.toList 0 _ s (by simp) hs
  unfold evDraw
  rw [if_pos hd]
  have e : ({ H with next := H.next + ops.size } : AHeap) = bump H ops.size := rfl
  rw [e, hg]
  simp only
  have : stable E (ancOf ops) H.next s = true := by
    unfold stable
    rw [Bool.and_eq_true]
    exact ⟨stillsOk_all _ _ _ _ hst.1, newsOk_all _ _ _ _ hst.2⟩
  rw [if_pos this]

/-! ### The same for simp -/

def thenD (r : Option DState) (k : DState → Option DState) : Option DState :=
  match r with
  | some s => k s
  | none => none
theorem thenD_some (s : DState) (k) : thenD (some s) k = k s := rfl
def kD (E : Env P) (G : Nat) (R : Recs) (ordf : Nat → Bool) (anc : Array Nat) (base : Nat) (o : Oper) (i : Nat) (s : DState) : Option DState := kindR E G R ordf anc base (kindOf o.op) o i s
theorem kD_eq (ordf : Nat → Bool) (anc : Array Nat) (base : Nat) (d : Option Tmp) (op : Op) (ty : TypeId) (p : String) (af : Array Edge) (g : Option (Nat × Bool)) (i : Nat) (s : DState) : kD E G R ordf anc base ⟨d, op, ty, p, af, g⟩ i s = kindR E G R ordf anc base (kindOf op) ⟨d, op, ty, p, af, g⟩ i s := rfl
def guardD (b : Option Bool) (w : Bool) (r : DState → Option DState) (k : DState → Option DState) (d : Option Tmp) (s : DState) : Option DState := if (b == some w) = true then thenD (r s) k else k (skipR s d)
theorem guardD_yes (b : Bool) (r k d) (s : DState) : guardD (some b) b r k d s = thenD (r s) k := by simp [guardD]
theorem guardD_tf (r k d) (s : DState) : guardD (some true) false r k d s = k (skipR s d) := by simp [guardD]
theorem guardD_ft (r k d) (s : DState) : guardD (some false) true r k d s = k (skipR s d) := by simp [guardD]
theorem guardD_none (w r k d) (s : DState) : guardD none w r k d s = k (skipR s d) := by simp [guardD]

theorem goD_nil (ds : List (Option Tmp)) (ordf : Nat → Bool) (anc : Array Nat) (base i : Nat) (s : DState) : goD E G R ds ordf anc base [] i s = some s := rfl
theorem goD_plain (ds : List (Option Tmp)) (ordf : Nat → Bool) (anc : Array Nat) (base : Nat) (d : Option Tmp) (op : Op) (ty : TypeId) (p : String) (af : Array Edge) (os : List Oper) (i : Nat) (s : DState) :
    goD E G R ds ordf anc base (⟨d, op, ty, p, af, none⟩ :: os) i s = thenD (kindR E G R ordf anc base (kindOf op) ⟨d, op, ty, p, af, none⟩ i s) (goD E G R ds ordf anc base os (i + 1)) := by
  simp only [goD, Region.wanted, if_true, thenD]
theorem goD_guard (ds : List (Option Tmp)) (ordf : Nat → Bool) (anc : Array Nat) (base : Nat) (d : Option Tmp) (op : Op) (ty : TypeId) (p : String) (af : Array Edge) (j : Nat) (w : Bool) (os : List Oper) (i : Nat) (s : DState) :
    goD E G R ds ordf anc base (⟨d, op, ty, p, af, some (j, w)⟩ :: os) i s = guardD (yld ds j s.a) w (kD E G R ordf anc base ⟨d, op, ty, p, af, some (j, w)⟩ i) (goD E G R ds ordf anc base os (i + 1)) d s := by
  simp only [goD, Region.wanted, guardD, thenD, kD]
  by_cases hh : (yld ds j s.a == some w) = true
  · simp only [hh, if_true]
  · simp only [hh, if_false, Bool.false_eq_true]

section st
variable (a : Act) (H : AHeap) (acts : List Nat) (news : List (Nat × AObj)) (stills : List (Nat × Oper × Act × Value)) (hist : List (AHeap × List Nat))
theorem skipR_eq (d : Option Tmp) : skipR ⟨a, H, acts, news, stills, hist⟩ d = ⟨a.put d undef, H, acts, news, stills, hist⟩ := rfl
theorem kindR_calm (ordf : Nat → Bool) (anc : Array Nat) (base : Nat) (o : Oper) (i : Nat) : kindR E G R ordf anc base .calm o i ⟨a, H, acts, news, stills, hist⟩ = calmR ⟨a, H, acts, news, stills, hist⟩ o.dst (evOp E G R H a o) := rfl
theorem kindR_still (ordf : Nat → Bool) (anc : Array Nat) (base : Nat) (o : Oper) (i : Nat) : kindR E G R ordf anc base .still o i ⟨a, H, acts, news, stills, hist⟩ = stillR (ordf i) ⟨a, H, acts, news, stills, hist⟩ i o (evOp E G R (heapAt anc base H acts (fun j => (anc.getD i 0).testBit j) news) a o) := rfl
theorem kindR_fresh (ordf : Nat → Bool) (anc : Array Nat) (base : Nat) (o : Oper) (i : Nat) : kindR E G R ordf anc base .fresh o i ⟨a, H, acts, news, stills, hist⟩ = freshR ⟨a, H, acts, news, stills, hist⟩ i (base + i) o.dst (evOp E G R ⟨.leaf, base + i⟩ a o) := rfl
theorem kindR_acts (ordf : Nat → Bool) (anc : Array Nat) (base : Nat) (o : Oper) (i : Nat) : kindR E G R ordf anc base .acts o i ⟨a, H, acts, news, stills, hist⟩ = actsR (acts.all fun q => (anc.getD i 0).testBit q) ⟨a, H, acts, news, stills, hist⟩ i o.dst (evOp E G R (heapAt anc base H acts (fun j => (anc.getD i 0).testBit j) news) a o) := rfl
theorem calmR_some (d : Option Tmp) (v : Value) (H' : AHeap) : calmR ⟨a, H, acts, news, stills, hist⟩ d (some (v, H')) = some ⟨a.put d v, H, acts, news, stills, hist⟩ := rfl
theorem stillR_true (i : Nat) (o : Oper) (v : Value) (H' : AHeap) : stillR true ⟨a, H, acts, news, stills, hist⟩ i o (some (v, H')) = some ⟨a.put o.dst v, H, acts, news, stills, hist⟩ := rfl
theorem stillR_false (i : Nat) (o : Oper) (v : Value) (H' : AHeap) : stillR false ⟨a, H, acts, news, stills, hist⟩ i o (some (v, H')) = some ⟨a.put o.dst v, H, acts, news, (i, o, a, v) :: stills, hist⟩ := rfl
theorem freshR_some (i n : Nat) (d : Option Tmp) (v : Value) (H' : AHeap) (ob : AObj) (h : H'.get n = some ob) : freshR ⟨a, H, acts, news, stills, hist⟩ i n d (some (v, H')) = some ⟨a.put d v, H, acts, (i, ob) :: news, stills, hist⟩ := by
  simp only [freshR, h]
theorem actsR_true (i : Nat) (d : Option Tmp) (v : Value) (H' : AHeap) : actsR true ⟨a, H, acts, news, stills, hist⟩ i d (some (v, H')) = some ⟨a.put d v, H', i :: acts, news, stills, (H', i :: acts) :: hist⟩ := rfl
theorem finD_some (anc : Array Nat) (base : Nat) (raw) : finD E G R anc base (some ⟨a, H, acts, news, stills, hist⟩) raw =
    if (stillsOk E G R anc base ⟨a, H, acts, news, stills, hist⟩ stills && newsOk anc base ⟨a, H, acts, news, stills, hist⟩ news) = true then some (a, heapAt anc base H acts (fun _ => true) news) else raw := rfl
end st
theorem heapAt_nil (anc : Array Nat) (base : Nat) (H : AHeap) (acts : List Nat) (w : Nat → Bool) : heapAt anc base H acts w [] = H := rfl
theorem heapAt_cons (anc : Array Nat) (base : Nat) (H : AHeap) (acts : List Nat) (w : Nat → Bool) (j : Nat) (ob : AObj) (ps : List (Nat × AObj)) :
    heapAt anc base H acts w ((j, ob) :: ps) = if (w j && !absorbed anc acts j) = true then (heapAt anc base H acts w ps).put (base + j) (some ob) else heapAt anc base H acts w ps := rfl
theorem absorbed_nil0 (anc : Array Nat) (j : Nat) : absorbed anc [] j = false := rfl
theorem absorbed_cons0 (anc : Array Nat) (q : Nat) (acts : List Nat) (j : Nat) : absorbed anc (q :: acts) j = ((anc.getD q 0).testBit j || absorbed anc acts j) := rfl
theorem sameR_some (u v : Value) (H : AHeap) : sameR (some (u, H)) v = veq 3 u v := rfl

theorem veq_int (n : Nat) (k : IntKind) (m : Int) : veq (n + 1) (.int k m) (.int k m) = true := by simp [veq]
theorem veq_bool (n : Nat) (b : Bool) : veq (n + 1) (.bool b) (.bool b) = true := by simp [veq]
theorem veq_string (n : Nat) (s : ByteArray) : veq (n + 1) (.string s) (.string s) = true := by simp [veq]
theorem veq_pointer (n : Nat) (p : Option Addr) : veq (n + 1) (.pointer p) (.pointer p) = true := by simp [veq]
theorem veq_slice (n : Nat) (p : Option Addr) (l c : Nat) : veq (n + 1) (.slice p l c) (.slice p l c) = true := by simp [veq]
theorem zip_self_all (f : Value → Value → Bool) : ∀ l : List Value, (l.all fun c => f c c) = true → ((l.zip l).all fun p => f p.1 p.2) = true
  | [], _ => rfl
  | x :: l, h => by
    simp only [List.all_cons, Bool.and_eq_true] at h
    simp only [List.zip_cons_cons, List.all_cons, h.1, zip_self_all f l h.2, Bool.and_true]
theorem veq_agg (n : Nat) (cs : Array Value) (h : (cs.toList.all fun c => veq n c c) = true) : veq (n + 1) (.agg cs) (.agg cs) = true := by
  simpa [veq] using zip_self_all (veq n) cs.toList h

/-! ### Calls -/

def oneR (E : Env P) (rs : List ResultVar) (tmps : Array Value) (H : AHeap) : Option (Value × AHeap) :=
  match aresults E H tmps rs with
  | some vs => some (oneOf vs, H)
  | none => none
def leaveC (E : Env P) (rs : List ResultVar) (r : Option (Exit × Act × AHeap)) : Option (Value × AHeap) :=
  match r with
  | some (e, a, H1) =>
    match e with
    | .normal | .ret =>
      match aleave a.defers H1 with
      | some H2 => oneR E rs a.tmps H2
      | none => none
    | _ => none
  | none => none
theorem leaveC_ret (rs : List ResultVar) (n : Nat) (f : Nat → Value) (H : AHeap) : leaveC E rs (some (.ret, A n f, H)) = oneR E rs (A n f).tmps H := rfl
theorem leaveC_normal (rs : List ResultVar) (n : Nat) (f : Nat → Value) (H : AHeap) : leaveC E rs (some (.normal, A n f, H)) = oneR E rs (A n f).tmps H := rfl
theorem oneR_tmp (t n : Nat) (f : Nat → Value) (H : AHeap) (ht : t < n) : oneR E [.tmp t] (A n f).tmps H = some (f t, H) := by
  unfold oneR
  simp only [aresults, aresult, A_getD, ht, if_true]
  rfl
theorem oneR_tmp2 (t u n : Nat) (f : Nat → Value) (H : AHeap) (ht : t < n) (hu : u < n) : oneR E [.tmp t, .tmp u] (A n f).tmps H = some (.tuple #[f t, f u], H) := by
  unfold oneR
  simp only [aresults, aresult, A_getD, ht, hu, if_true]
  rfl
theorem oneR_none (n : Nat) (f : Nat → Value) (H : AHeap) : oneR E [] (A n f).tmps H = some (.tuple #[], H) := rfl

/-- Arguments, as an activation has them. -/
def argF : List Value → Nat → Nat → Value
  | [], _ => fun _ => undef
  | v :: vs, k => upd (argF vs (k + 1)) k v
theorem argF_get : ∀ (l : List Value) (k i : Nat), k ≤ i → argF l k i = l.getD (i - k) undef
  | [], _, _, _ => rfl
  | v :: vs, k, i, h => by
    simp only [argF, upd]
    by_cases e : i = k
    · subst e; simp
    · rw [if_neg e, argF_get vs (k + 1) i (by omega)]
      rw [show i - k = (i - (k + 1)) + 1 by omega]
      simp
theorem argF_eq (l : List Value) : (fun i => l.toArray.getD i undef) = argF l 0 := by
  funext i
  rw [argF_get l 0 i (Nat.zero_le i)]
  simp [List.getD]

theorem evCall_eq {dr : Draw} {f : FuncId} {fn : Func} {c : Code} {n : Nat} {rs : List ResultVar} (hf : E.func f = some fn) (hb : fn.body = some c) (hn : fn.ntmps = n) (hr : fn.results.toList = rs) {args : List Value} (hs : args.length ≤ n) (H : AHeap) :
    evCall E G R dr f args.toArray H = leaveC E rs (evC E G R dr none c (A n (argF args 0)) H) := by
  subst hn hr
  unfold evCall
  have hs' : args.toArray.size ≤ fn.ntmps := by simpa using hs
  simp only [hf, hb, A_init hs', argF_eq]
  generalize evC E G R dr none c (A fn.ntmps (argF args 0)) H = r
  rcases r with _ | ⟨e, a, H1⟩
  · rfl
  · cases e <;> first
      | rfl
      | (simp only [leaveC, oneR]
         cases aleave a.defers H1 with
         | none => rfl
         | some H2 => simp only; cases aresults E H2 a.tmps fn.results.toList <;> rfl)
end
end Go.Ev
