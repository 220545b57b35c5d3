/- The evaluator in the form that the kernel reckons fast: activations as trees, and dispatch by closed terms. Definitions. -/
import Derived.Test.YtmhjojadboilbaaGreatDoorEvM
set_option linter.unusedVariables false
set_option linter.unusedSimpArgs false
set_option linter.unusedSectionVars false
namespace Go.Ev
open Go.Proofs
noncomputable section

noncomputable abbrev PP : Program := Tryz.prog
abbrev nG : Nat := 9

structure FA where
  t : Tr Value
  d : List Deferred

def fEval (x : Operand) : FA → Value :=
  Operand.rec (motive := fun _ => FA → Value)
    (fun i a => Option.rec (motive := fun _ => Value) undef (fun v => v) (a.t.get i)) (fun v _ => v) (fun g _ => .pointer (some ⟨g, 0, none⟩)) (fun f _ => .func (.func f) #[] #[]) x

def fPut (d : Option Tmp) : Value → Nat → FA → FA :=
  Option.rec (motive := fun _ => Value → Nat → FA → FA) (fun _ _ a => a)
    (fun d v n a => Bool.rec (motive := fun _ => FA) a (FA.rec (motive := fun _ => FA) (fun t ds => ⟨t.put d (some v), ds⟩) a) (Nat.ble (Nat.succ d) n)) d

/-- The memory and the value, or what is called. -/
abbrev OpK := Oper → AHeap → FA → Option OpRes

def fpure (o : Oper) (H : AHeap) (a : FA) : Option OpRes :=
  if o.op.operands.all (fun x => addrFree (fEval x a)) = true then
    match pureRun PP (execOp (fun x => fEval x a) o) with
    | some (.value v) => if addrFree v = true then some (.val v H) else none
    | _ => none
  else none

def kNone : OpK := fun _ _ _ => none
def kPure : OpK := fpure

/-- Wrapping, when there is nothing to wrap. -/
def fwrap (k : IntKind) (n : Int) : Int :=
  Int.rec (motive := fun _ => Int) (fun m => Bool.rec (motive := fun _ => Int) (k.wrap (.ofNat m)) (.ofNat m) (Nat.ble m 127)) (fun m => k.wrap (.negSucc m)) n

def kindN (k : IntKind) : Nat := IntKind.rec (motive := fun _ => Nat) 0 1 2 3 4 5 6 7 k

def intLe (x y : Int) : Bool :=
  Int.rec (motive := fun _ => Bool) (fun a => Int.rec (motive := fun _ => Bool) (fun b => Nat.ble a b) (fun _ => false) y) (fun a => Int.rec (motive := fun _ => Bool) (fun _ => true) (fun b => Nat.ble b a) y) x
def intEq (x y : Int) : Bool :=
  Int.rec (motive := fun _ => Bool) (fun a => Int.rec (motive := fun _ => Bool) (fun b => Nat.beq a b) (fun _ => false) y) (fun a => Int.rec (motive := fun _ => Bool) (fun _ => false) (fun b => Nat.beq a b) y) x

def bytesEq (s t : ByteArray) : Bool := List.rec (motive := fun _ => List UInt8 → Bool) (fun m => List.rec (motive := fun _ => Bool) true (fun _ _ _ => false) m)
  (fun x _ ih m => List.rec (motive := fun _ => Bool) false (fun y ys _ => Bool.rec (motive := fun _ => Bool) false (ih ys) (Nat.beq x.toNat y.toNat)) m) s.data.toList t.data.toList

/-- The entry of a list, reckoned fast. -/
def nth {α : Type} (l : List α) : Nat → Option α :=
  List.rec (motive := fun _ => Nat → Option α) (fun _ => none) (fun x _ ih n => Bool.rec (motive := fun _ => Option α) (ih (Nat.sub n 1)) (some x) (Nat.beq n 0)) l

abbrev BinK := IntKind → Int → Int → Option Value
def bAdd : BinK := fun k x y => some (.int k (fwrap k (Int.add x y)))
def bSub : BinK := fun k x y => some (.int k (fwrap k (Int.sub x y)))
def bMul : BinK := fun k x y => some (.int k (fwrap k (Int.mul x y)))
def bEql : BinK := fun _ x y => some (.bool (intEq x y))
def bNeq : BinK := fun _ x y => some (.bool (Bool.not (intEq x y)))
def bLss : BinK := fun _ x y => some (.bool (Bool.not (intLe y x)))
def bLeq : BinK := fun _ x y => some (.bool (intLe x y))
def bGtr : BinK := fun _ x y => some (.bool (Bool.not (intLe x y)))
def bGeq : BinK := fun _ x y => some (.bool (intLe y x))
def bNone : BinK := fun _ _ _ => none
def binInt (op : BinOp) : BinK := BinOp.rec (motive := fun _ => BinK) bAdd bSub bMul bNone bNone bNone bNone bNone bNone bNone bNone bEql bNeq bLss bLeq bGtr bGeq op

def binStr (op : BinOp) : ByteArray → ByteArray → Option Value :=
  BinOp.rec (motive := fun _ => ByteArray → ByteArray → Option Value) (fun _ _ => none) (fun _ _ => none) (fun _ _ => none) (fun _ _ => none) (fun _ _ => none) (fun _ _ => none) (fun _ _ => none) (fun _ _ => none) (fun _ _ => none) (fun _ _ => none) (fun _ _ => none)
    (fun s t => some (.bool (bytesEq s t))) (fun s t => some (.bool (Bool.not (bytesEq s t)))) (fun _ _ => none) (fun _ _ => none) (fun _ _ => none) (fun _ _ => none) op

def fbin2 (op : BinOp) (x y : Value) : Option Value :=
  match x, y with
  | .int k a, .int k' b => Bool.rec (motive := fun _ => Option Value) none (binInt op k a b) (Nat.beq (kindN k) (kindN k'))
  | .string s, .string t => binStr op s t
  | _, _ => none

def fbin (op : BinOp) (t : TypeId) (x y : Operand) : OpK := fun o H a =>
  match fbin2 op (fEval x a) (fEval y a) with
  | some v => some (.val v H)
  | none => match op with
    | .eql => match aeqNil env t (fEval x a) (fEval y a) with
      | some b => some (.val (.bool b) H)
      | none => fpure o H a
    | .neq => match aeqNil env t (fEval x a) (fEval y a) with
      | some b => some (.val (.bool !b) H)
      | none => fpure o H a
    | _ => fpure o H a

def fconv (src dst : TypeId) (x : Operand) : OpK := fun o H a =>
  match fEval x a with
  | .slice p l c => val1 H (abytes env H src dst (.slice p l c))
  | .int _ n => match env.und src, env.und dst with
    | some _, some (.int k') => some (.val (.int k' (fwrap k' n)) H)
    | _, _ => fpure o H a
  | _ => fpure o H a

def fvlist (a : FA) (ps : Array (Nat × Operand)) : List (Nat × Value) := ps.toList.map fun p => (p.1, fEval p.2 a)
def fargs (a : FA) (xs : Array Operand) : Array Value := (List.rec (motive := fun _ => FA → List Value) (fun _ => []) (fun x _ ih a => fEval x a :: ih a) xs.toList a).toArray

def strTree (s : ByteArray) : Tr Nat :=
  (List.rec (motive := fun _ => Nat → Tr Nat → Tr Nat) (fun _ t => t) (fun b _ ih k t => ih (Nat.succ k) (t.put k (some b.toNat))) s.data.toList) 0 .leaf
def fstrAt (t : TypeId) (s : ByteArray) (ix : Value) : Option Value :=
  match env.und t, ix with
  | some .string, .int _ (.ofNat k) => match (strTree s).get k with
    | some b => some (.int .u8 (.ofNat b))
    | none => none
  | _, _ => none

def fcall (c : Call) : OpK := fun o H a =>
  match c.callee with
  | .builtin b =>
    match b with
    | .append => if h : c.args.size = 2 ∧ c.argTypes.size = 2 then val2 (aappend env H c.argTypes[0] c.argTypes[1] (fEval c.args[0] a) (fEval c.args[1] a)) else none
    | .len => if h : c.args.size = 1 ∧ c.argTypes.size = 1 then val1 H (alen env H c.argTypes[0] (fEval c.args[0] a)) else none
    | .cap => if h : c.args.size = 1 ∧ c.argTypes.size = 1 then val1 H (acap env H c.argTypes[0] (fEval c.args[0] a)) else none
    | .clear => if h : c.args.size = 1 ∧ c.argTypes.size = 1 then valU (aclear env H c.argTypes[0] (fEval c.args[0] a)) else none
    | .max | .min => fpure o H a
    | _ => none
  | .value f =>
    match fEval f a with
    | .func (.func f) first captured => match env.func f with
      | some _ => some (.call f (first ++ fargs a c.args ++ captured))
      | none => none
    | .func (.yield l) first _ => some (.round l (first ++ fargs a c.args))
    | _ => none
  | .invoke recv name =>
    match amethod env (fEval recv a) name with
    | some (f, v) => match env.func f with
      | some _ => some (.call f (#[v] ++ fargs a c.args))
      | none => none
    | none => none

def fNil (x : Operand) : OpK := fun _ H a =>
  match fEval x a with
  | .pointer (some p) => some (.val (.pointer (some p)) H)
  | .func (.func f) q r => some (.val (.func (.func f) q r) H)
  | .func (.yield f) q r => some (.val (.func (.yield f) q r) H)
  | _ => none

def fMove (x : Operand) : OpK := fun _ H a => some (.val (fEval x a) H)

def fop (o : Op) : OpK :=
  Op.rec (motive := fun _ => OpK)
    fMove fMove
    (fun c x y _ H a => match fEval c a with | .bool b => some (.val (Bool.rec (motive := fun _ => Value) (fEval y a) (fEval x a) b) H) | _ => none)
    (fun t _ H _ => val2 (aalloc env H t))
    (fun t x _ H a => some (.val (abox H t (fEval x a)).1 (abox H t (fEval x a)).2))
    (fun t ps _ H a => val1 H (abuild env t (fvlist a ps)))
    (fun t n ps _ H a => val2 (abuildSlice env H t n (fvlist a ps)))
    (fun t m k x _ H a => valU (amapUpdate env H t (fEval m a) (fEval k a) (fEval x a)))
    (fun t x _ H a => val1 H (aload env H t (fEval x a)))
    (fun t x v _ H a => valU (astore env H t (fEval x a) (fEval v a)))
    (fun _ => kNone) (fun _ => kNone)
    fNil
    (fun op t x y _ => fbin op t x y)
    (fun _ _ _ => kPure)
    fconv
    (fun _ _ => kNone)
    (fun t x _ H a => val1 H (amakeIface env t (fEval x a)))
    (fun f first cap _ H a => match f with | .func f => some (.val (.func (.func f) (fargs a first) (fargs a cap)) H) | _ => none)
    (fun _ r _ H _ => match r with | none => some (.val (amakeMap H).1 (amakeMap H).2) | _ => none)
    (fun _ _ => kNone)
    (fun t l c _ H a => val2 (amakeSlice env H t (fEval l a) (fEval c a)))
    (fun t x lo hi mx o H a => match mx with
      | none => match fEval x a with
        | .string _ => fpure o H a
        | v => val1 H (aslice env H t v (lo.map (fEval · a)) (hi.map (fEval · a)))
      | _ => none)
    (fun t x f _ H a => val1 H (afieldAddr env t (fEval x a) f))
    (fun t x f _ H a => val1 H (afield env t (fEval x a) f))
    (fun t x i _ H a => val1 H (aindexAddr env t (fEval x a) (fEval i a)))
    (fun t x i o H a => match fEval x a with
      | .string s => match fstrAt t s (fEval i a) with
        | some v => some (.val v H)
        | none => fpure o H a
      | v => val1 H (aindex env t v (fEval i a)))
    (fun t x i ok _ H a => val1 H (alookup env H t (fEval x a) (fEval i a) ok))
    (fun t m k x _ H a => valU (amapUpdate env H t (fEval m a) (fEval k a) (fEval x a)))
    (fun _ _ _ => kNone) (fun _ _ _ _ => kNone)
    (fun t x _ H a => val2 (arange env H t (fEval x a)))
    (fun it s _ H a => val2 (anext H (fEval it a) s))
    (fun it _ H a => val1 H (aentry H (fEval it a)))
    (fun _ _ _ _ => kNone)
    (fun t i _ H a => val1 H (aextract (fEval t a) i))
    fcall
    (fun _ => kNone) (fun _ => kNone) (fun _ => kNone) (fun _ _ => kNone) (fun _ _ _ => kNone) (fun _ _ => kNone) o

structure FR where
  loop : Option Nat → Code → Nat → FA → AHeap → Option (Exit × FA × AHeap)
  call : FuncId → Array Value → AHeap → Option (Value × AHeap)
  round : Nat → Array Value → AHeap → Option (Value × AHeap)

def okOper (o : Oper) : Bool := o.op.operands.all (okOpd nG)

def fOp (o : Oper) (R : FR) (H : AHeap) (a : FA) : Option (Value × AHeap) :=
  Bool.rec (motive := fun _ => Option (Value × AHeap)) none
    (Option.rec (motive := fun _ => Option (Value × AHeap)) none
      (OpRes.rec (motive := fun _ => Option (Value × AHeap)) (fun v H' => some (v, H')) (fun f args => R.call f args H) (fun l args => R.round l args H)) (fop o.op o H a)) (okOper o)

def fYield (ops : Array Oper) (j : Nat) (b : Bool) (a : FA) : Bool :=
  match (ops[j]?).bind (·.dst) with
  | some t => match a.t.get t with
    | some (.bool c) => Bool.rec (motive := fun _ => Bool) (Bool.not c) c b
    | _ => false
  | none => false

def fWant (g : Option (Nat × Bool)) : Array Oper → FA → Bool :=
  Option.rec (motive := fun _ => Array Oper → FA → Bool) (fun _ _ => true) (fun p ops a => fYield ops p.1 p.2 a) g

abbrev OpsK := Array Oper → FR → Nat → FA → AHeap → Option (FA × AHeap)

def fOps (l : List Oper) : OpsK :=
  List.rec (motive := fun _ => OpsK) (fun _ _ _ a H => some (a, H))
    (fun o _ ih ops R n a H => Bool.rec (motive := fun _ => Option (FA × AHeap)) (ih ops R n (fPut o.dst undef n a) H)
      (Option.rec (motive := fun _ => Option (FA × AHeap)) none (Prod.rec (motive := fun _ => Option (FA × AHeap)) fun v H' => ih ops R n (fPut o.dst v n a) H') (fOp o R H a)) (fWant o.guard ops a)) l

def fOpsA (ops : Array Oper) : FR → Nat → FA → AHeap → Option (FA × AHeap) := fOps ops.toList ops

/-! ### Regions that draw their order -/

structure FD where
  a : FA
  H : AHeap
  acts : List Nat
  news : List (Nat × AObj)
  stills : List (Nat × Oper × FA × Value)
  hist : List (AHeap × List Nat)

abbrev DGo := Array Oper → FR → Nat → Nat → Nat → FA → AHeap → List Nat → List (Nat × AObj) → List (Nat × Oper × FA × Value) → List (AHeap × List Nat) → Option FD

def fanew (o : Oper) (a : FA) (n : Nat) : Option (Value × AObj) :=
  match fop o.op o ⟨.leaf, n⟩ a with
  | some (.val v H) => match H.get n with
    | some ob => some (v, ob)
    | none => none
  | _ => none

def ancBit (ops : Array Oper) (i j : Nat) : Bool := ((ancOf ops).getD i 0).testBit j
def ordK (ops : Array Oper) (i : Nat) : Bool := ordered ops (ancOf ops) i

def dCalm (ih : DGo) (o : Oper) : DGo := fun ops R n base i a H acts news stills hist =>
  match fop o.op o H a with
  | some (.val v _) => ih ops R n base (i + 1) (fPut o.dst v n a) H acts news stills hist
  | _ => none
def dStill (ih : DGo) (o : Oper) : DGo := fun ops R n base i a H acts news stills hist =>
  match fop o.op o (heapAt (ancOf ops) base H acts (fun j => ancBit ops i j) news) a with
  | some (.val v _) => ih ops R n base (i + 1) (fPut o.dst v n a) H acts news (Bool.rec (motive := fun _ => List (Nat × Oper × FA × Value)) ((i, o, a, v) :: stills) stills (ordK ops i)) hist
  | _ => none
def dFresh (ih : DGo) (o : Oper) : DGo := fun ops R n base i a H acts news stills hist =>
  match fanew o a (base + i) with
  | some (v, ob) => ih ops R n base (i + 1) (fPut o.dst v n a) H acts ((i, ob) :: news) stills hist
  | _ => none
def dActs (ih : DGo) (o : Oper) : DGo := fun ops R n base i a H acts news stills hist =>
  Bool.rec (motive := fun _ => Option FD) none
    (match fOp o R (heapAt (ancOf ops) base H acts (fun j => ancBit ops i j) news) a with
    | some (v, H') => ih ops R n base (i + 1) (fPut o.dst v n a) H' (i :: acts) news stills ((H', i :: acts) :: hist)
    | none => none) (acts.all (fun q => ancBit ops i q))

def fGo (l : List Oper) : DGo :=
  List.rec (motive := fun _ => DGo) (fun _ _ _ _ _ a H acts news stills hist => some ⟨a, H, acts, news, stills, hist⟩)
    (fun o _ ih ops R n base i a H acts news stills hist => Bool.rec (motive := fun _ => Option FD) (ih ops R n base (i + 1) (fPut o.dst undef n a) H acts news stills hist)
      (Bool.rec (motive := fun _ => Option FD) none
        ((Kind.rec (motive := fun _ => DGo → Oper → DGo) dCalm dStill dFresh dActs (kindOf o.op)) ih o ops R n base i a H acts news stills hist) (okOper o)) (fWant o.guard ops a)) l

def fstable (ops : Array Oper) (base : Nat) (s : FD) : Bool :=
  (s.stills.all fun (i, o, a, v) => s.hist.all fun (H, acts) =>
    acts.any (fun q => ancBit ops q i) || s.acts.any (fun q => !acts.contains q && ancBit ops i q) ||
      (match fop o.op o (heapAt (ancOf ops) base H acts (fun j => ancBit ops i j) s.news) a with
        | some (.val u _) => veq 3 u v
        | _ => false)) &&
  s.news.all fun (j, _) => s.hist.all fun (H, acts) => absorbed (ancOf ops) acts j || (H.get (base + j)).isNone

def fDraw (ops : Array Oper) : FR → Nat → FA → AHeap → Option (FA × AHeap) := fun R n a H =>
  Bool.rec (motive := fun _ => Option (FA × AHeap)) none
    (match fGo ops.toList ops R n H.next 0 a { H with next := H.next + ops.size } [] [] [] [({ H with next := H.next + ops.size }, [])] with
    | some s => Bool.rec (motive := fun _ => Option (FA × AHeap)) none (some (s.a, heapAt (ancOf ops) H.next s.H s.acts (fun _ => true) s.news)) (fstable ops H.next s)
    | none => none) (drawable ops)

abbrev CodeK := FR → Option Nat → Nat → FA → AHeap → Option (Exit × FA × AHeap)

def cRegion (ops : Array Oper) (d : Bool) : CodeK := fun R _ n a H =>
  Option.rec (motive := fun _ => Option (Exit × FA × AHeap)) none (Prod.rec (motive := fun _ => Option (Exit × FA × AHeap)) fun a' H' => some (.normal, a', H'))
    (Bool.rec (motive := fun _ => Option (FA × AHeap)) (fOpsA ops R n a H) (fDraw ops R n a H) d)

def fSeq (x y : CodeK) : CodeK := fun R rd n a H =>
  match x R rd n a H with
  | some (.normal, a', H') => y R rd n a' H'
  | r => r

def fCond (c : Operand) (x y : CodeK) : CodeK := fun R rd n a H =>
  Bool.rec (motive := fun _ => Option (Exit × FA × AHeap)) none
    (match fEval c a with
    | .bool b => Bool.rec (motive := fun _ => Option (Exit × FA × AHeap)) (y R rd n a H) (x R rd n a H) b
    | _ => none) (okOpd nG c)

def fBlock (id : Nat) (c : CodeK) : CodeK := fun R rd n a H =>
  match c R rd n a H with
  | some (.exit id', a', H') => Bool.rec (motive := fun _ => Option (Exit × FA × AHeap)) (some (.exit id', a', H')) (some (.normal, a', H')) (Nat.beq id' id)
  | r => r

def tmpsOf (n : Nat) (a : FA) : Array Value := ((List.range n).map fun i => (a.t.get i).getD undef).toArray
def fill (l : List Value) : FA := ⟨(l.zipIdx.foldl (fun t p => t.put p.2 (some p.1)) .leaf), []⟩

def fRange (f : Operand) (ps : Array Tmp) (asg body : Code) : CodeK := fun R rd n a H =>
  Bool.rec (motive := fun _ => Option (Exit × FA × AHeap)) none
    (match fEval f a, enterH rd H with
    | .func (.func g) first captured, some (H1, marks) =>
      match env.func g, R.call g (first ++ #[.func (.yield H1.next) #[] #[]] ++ captured) (H1.add (.loop { state := .ready, pending := none, fn := 0, tmps := tmpsOf n a, params := ps, assign := asg, body := body, defers := 0 })) with
      | some _, some (_, H3) =>
        match H3.get H1.next with
        | some (.loop r) =>
          if r.state = .busy then none
          else
            match r.pending with
            | none => some (.normal, { a with d := marks ++ a.d }, H3.put H1.next (some (.loop { r with state := .exhausted })))
            | some .ret => some (.ret, { a with d := marks ++ a.d }, H3.put H1.next (some (.loop { r with state := .exhausted })))
            | some (.exit id) => some (.exit id, { a with d := marks ++ a.d }, H3.put H1.next (some (.loop { r with state := .exhausted })))
            | _ => none
        | _ => none
      | _, _ => none
    | _, _ => none) (okOpd nG f)

def fC (c : Code) : CodeK :=
  Code.rec (motive := fun _ => CodeK)
    (fun _ _ _ a H => some (.normal, a, H))
    (fun _ ops d => cRegion ops d)
    (fun _ _ ix iy => fSeq ix iy)
    (fun c _ _ ix iy => fCond c ix iy)
    (fun id _ ic => fBlock id ic)
    (fun c _ R rd n a H => R.loop rd c n a H)
    (fun f ps asg body _ _ => fRange f ps asg body)
    (fun id _ _ _ a H => some (.exit id, a, H))
    (fun _ _ _ _ _ _ _ => none)
    (fun _ _ _ _ a H => some (.normal, a, H))
    (fun _ _ _ _ _ _ => none)
    (fun _ _ _ a H => some (.ret, a, H))
    (fun _ _ _ _ _ _ => none) c

def fresult (H : AHeap) (a : FA) : ResultVar → Option Value
  | .tmp t => some ((a.t.get t).getD undef)
  | .cell c t => aload env H t ((a.t.get c).getD undef)

def fresults (H : AHeap) (a : FA) : List ResultVar → Option (List Value)
  | [] => some []
  | r :: rs => match fresult H a r, fresults H a rs with
    | some v, some vs => some (v :: vs)
    | _, _ => none

def fCall (R : FR) (f : FuncId) (args : Array Value) (H : AHeap) : Option (Value × AHeap) :=
  match env.func f with
  | some fn => match fn.body with
    | some c =>
      Bool.rec (motive := fun _ => Option (Value × AHeap)) none
        (match fC c R none fn.ntmps (fill args.toList) H with
        | some (e, a, H1) =>
          match e with
          | .normal | .ret =>
            match aleave a.d H1 with
            | some H2 => match fresults H2 a fn.results.toList with
              | some vs => some (oneOf vs, H2)
              | none => none
            | none => none
          | _ => none
        | none => none) (Nat.ble args.size fn.ntmps)
    | none => none
  | none => none

def fRound (R : FR) (l : Nat) (args : Array Value) (H : AHeap) : Option (Value × AHeap) :=
  match H.get l with
  | some (.loop r) =>
    if args.size = r.params.size then
      match fC r.assign R (some l) r.tmps.size (fill ((r.params.zip args).foldl (fun tmps (t, a) => tmps.setIfInBounds t a) r.tmps).toList) H with
      | some (.normal, a1, H1) =>
        match H1.get l with
        | some (.loop r1) =>
          if r1.state = .ready then
            match fC r.body R (some l) r.tmps.size a1 (H1.put l (some (.loop { r1 with state := .busy }))) with
            | some (e, _, H3) =>
              match jumpOf e, H3.get l with
              | some j, some (.loop r3) => some (.bool j.isNone, H3.put l (some (.loop { r3 with state := if j.isNone then .ready else .done, pending := j })))
              | _, _ => none
            | none => none
          else none
        | _ => none
      | _ => none
    else none
  | _ => none

def fLoop (R : FR) (rd : Option Nat) (c : Code) (n : Nat) (a : FA) (H : AHeap) : Option (Exit × FA × AHeap) :=
  match fC c R rd n a H with
  | some (.normal, a', H') => R.loop rd c n a' H'
  | r => r

def FR.step (R : FR) : FR := { loop := fLoop R, call := fCall R, round := fRound R }
def fv (n : Nat) : FR :=
  Nat.rec (motive := fun _ => FR) { loop := fun _ _ _ _ _ => none, call := fun _ _ _ => none, round := fun _ _ _ => none } (fun _ ih => ih.step) n
end
end Go.Ev
