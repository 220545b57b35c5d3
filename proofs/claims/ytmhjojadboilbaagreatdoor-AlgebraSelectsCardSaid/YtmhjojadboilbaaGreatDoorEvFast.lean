/- The fast evaluator says what the plain one says: values. -/
import Derived.Test.YtmhjojadboilbaaGreatDoorEvQ
import Derived.Laws.Strings
import Derived.Test.YtmhjojadboilbaaGreatDoorEvDraw
set_option linter.unusedVariables false
set_option linter.unusedSimpArgs false
set_option linter.unusedSectionVars false
namespace Go.Ev
open Go.Proofs
noncomputable section

theorem wrap_127 (k : IntKind) (m : Nat) (h : m ≤ 127) : k.wrap (.ofNat m) = .ofNat m := by
  cases k <;> simp [IntKind.wrap, IntKind.signed, IntKind.bits] <;> omega

theorem fwrap_eq (k : IntKind) (n : Int) : fwrap k n = k.wrap n := by
  cases n with
  | ofNat m =>
    show (Bool.rec (motive := fun _ => Int) (k.wrap (.ofNat m)) (.ofNat m) (Nat.ble m 127)) = _
    cases h : Nat.ble m 127 with
    | false => rfl
    | true => exact (wrap_127 k m (Nat.le_of_ble_eq_true h)).symm
  | negSucc m => rfl

theorem beq_nat (a b : Nat) : Nat.beq a b = decide (a = b) := by
  by_cases h : a = b
  · subst h; simp [Nat.beq_refl]
  · have : Nat.beq a b = false := by
      cases h2 : Nat.beq a b with
      | false => rfl
      | true => exact absurd (Nat.eq_of_beq_eq_true h2) h
    simp [this, h]

theorem ble_nat (a b : Nat) : Nat.ble a b = decide (a ≤ b) := by
  by_cases h : a ≤ b
  · simp [h, Nat.ble_eq_true_of_le h]
  · have : Nat.ble a b = false := by
      cases h2 : Nat.ble a b with
      | false => rfl
      | true => exact absurd (Nat.le_of_ble_eq_true h2) h
    simp [this, h]

theorem intLe_eq (x y : Int) : intLe x y = decide (x ≤ y) := by
  cases x with
  | ofNat a => cases y with
    | ofNat b => show Nat.ble a b = _; rw [ble_nat]; simp
    | negSucc b => show false = _; symm; simp; omega
  | negSucc a => cases y with
    | ofNat b => show true = _; symm; simp; omega
    | negSucc b => show Nat.ble b a = _; rw [ble_nat]; congr 1; apply propext; omega

theorem intEq_eq (x y : Int) : intEq x y = decide (x = y) := by
  cases x with
  | ofNat a => cases y with
    | ofNat b => show Nat.beq a b = _; rw [beq_nat]; simp only [Int.ofNat.injEq]
    | negSucc b => rfl
  | negSucc a => cases y with
    | ofNat b => rfl
    | negSucc b => show Nat.beq a b = _; rw [beq_nat]; simp

theorem kindN_eq {k k' : IntKind} (h : Nat.beq (kindN k) (kindN k') = true) : k = k' := by
  cases k <;> cases k' <;> first | rfl | (revert h; decide)

def listEq (l : List UInt8) : List UInt8 → Bool := List.rec (motive := fun _ => List UInt8 → Bool) (fun m => List.rec (motive := fun _ => Bool) true (fun _ _ _ => false) m)
  (fun x _ ih m => List.rec (motive := fun _ => Bool) false (fun y ys _ => Bool.rec (motive := fun _ => Bool) false (ih ys) (Nat.beq x.toNat y.toNat)) m) l

theorem listEq_eq : ∀ (l m : List UInt8), listEq l m = (l == m)
  | [], [] => rfl
  | [], _ :: _ => rfl
  | _ :: _, [] => rfl
  | x :: l, y :: m => by
    show (Bool.rec (motive := fun _ => Bool) false (listEq l m) (Nat.beq x.toNat y.toNat)) = _
    rw [beq_nat, List.cons_beq_cons, ← listEq_eq l m]
    by_cases h : x = y
    · subst h; simp
    · have : ¬ x.toNat = y.toNat := fun e => h (UInt8.toNat_inj.1 e)
      simp [this, h]

theorem bytesEq_eq (s t : ByteArray) : bytesEq s t = (s.toList == t.toList) := by
  rw [ByteArray.toList_eq, ByteArray.toList_eq]
  exact listEq_eq s.data.toList t.data.toList


theorem fbin2_ok {P : Program} {op : BinOp} {t : TypeId} {x y : Operand} {a b v : Value} (h : fbin2 op a b = some v) :
    pureRun P (do pure (Next.value (← (do eqGuard op t x y a b; binOp op t a b)))) = some (.value v) ∧ addrFree a = true ∧ addrFree b = true ∧ addrFree v = true := by
  unfold fbin2 at h
  split at h
  · rename_i k m k' n
    cases hk : Nat.beq (kindN k) (kindN k') with
    | false => rw [hk] at h; cases h
    | true =>
      rw [hk] at h
      obtain rfl := kindN_eq hk
      cases op <;> first
        | (cases h; done)
        | skip
      all_goals
        simp only [binInt, bAdd, bSub, bMul, bEql, bNeq, bLss, bLeq, bGtr, bGeq, Option.some.injEq, fwrap_eq, intLe_eq, intEq_eq] at h
        subst h
        refine ⟨?_, rfl, rfl, rfl⟩
        simp only [eqGuard, binOp, Op.intArith, Op.intCmp, ne_eq, not_true_eq_false, if_false, Bool.not_false, Bool.not_true, if_true, pure_bind, Bool.false_eq_true, reduceCtorEq]
        first
          | rfl
          | (refine congrArg (fun u => some (Next.value (Value.bool u))) ?_; simp [bne]; done)
          | (refine congrArg (fun u => some (Next.value (Value.bool u))) ?_; by_cases hh : m = n <;> simp [hh]; done)
          | (refine congrArg (fun u => some (Next.value (Value.bool u))) ?_; rw [← decide_not]; congr 1; apply propext; omega)
  · rename_i s u
    cases op <;> first
      | (cases h; done)
      | skip
    all_goals
      simp only [binStr, Option.some.injEq, bytesEq_eq] at h
      subst h
      refine ⟨?_, rfl, rfl, rfl⟩
      simp only [eqGuard, binOp, Op.stringOp, if_false, Bool.not_false, Bool.not_true, if_true, pure_bind, Bool.false_eq_true, reduceCtorEq]
      rfl
  · cases h
end
end Go.Ev
/- The fast evaluator says what the plain one says: operations. -/
namespace Go.Ev
open Go.Proofs
noncomputable section

def FA.ok (n : Nat) (a : FA) : Prop := ∀ t, n ≤ t → a.t.get t = none
def FA.act (n : Nat) (a : FA) : Act := { tmps := tmpsOf n a, defers := a.d }

theorem tmpsOf_size (n : Nat) (a : FA) : (tmpsOf n a).size = n := by simp [tmpsOf]
theorem tmpsOf_get (n : Nat) (a : FA) (i : Nat) (h : i < n) : (tmpsOf n a)[i]? = some ((a.t.get i).getD undef) := by
  simp [tmpsOf, h]

theorem opt_rec (x : Option Value) : (Option.rec (motive := fun _ => Value) undef (fun v => v) x) = x.getD undef := by cases x <;> rfl

theorem fEval_eq {n : Nat} {a : FA} (h : a.ok n) (x : Operand) : fEval x a = (a.act n).eval x := by
  cases x with
  | tmp i =>
    show (Option.rec (motive := fun _ => Value) undef (fun v => v) (a.t.get i)) = (tmpsOf n a).getD i undef
    rw [opt_rec]
    by_cases hi : i < n
    · rw [Array.getD_eq_getD_getElem?, tmpsOf_get n a i hi]; rfl
    · rw [h i (Nat.not_lt.1 hi), Array.getD_eq_getD_getElem?, Array.getElem?_eq_none (by rw [tmpsOf_size]; exact Nat.not_lt.1 hi)]
  | const v => rfl
  | global g => rfl
  | func f => rfl

theorem fPut_some (d : Tmp) (v : Value) (n : Nat) (a : FA) : fPut (some d) v n a = if d < n then ⟨a.t.put d (some v), a.d⟩ else a := by
  show (Bool.rec (motive := fun _ => FA) a ⟨a.t.put d (some v), a.d⟩ (Nat.ble (Nat.succ d) n)) = _
  rw [ble_nat]
  by_cases h : d < n
  · rw [if_pos h, decide_eq_true (show Nat.succ d ≤ n from h)]
  · rw [if_neg h, decide_eq_false (show ¬ Nat.succ d ≤ n from h)]

theorem fPut_ok {n : Nat} {a : FA} (h : a.ok n) (d : Option Tmp) (v : Value) : (fPut d v n a).ok n := by
  cases d with
  | none => exact h
  | some d =>
    rw [fPut_some]
    split
    · intro t ht
      show (a.t.put d (some v)).get t = none
      rw [Tr.get_put, if_neg (fun e => by subst e; exact absurd (show t < n by assumption) (Nat.not_lt.2 ht))]; exact h t ht
    · exact h

theorem fPut_act {n : Nat} (a : FA) (d : Option Tmp) (v : Value) : (fPut d v n a).act n = (a.act n).put d v := by
  cases d with
  | none => rfl
  | some d =>
    rw [fPut_some]
    split
    · rename_i h
      have : tmpsOf n ⟨a.t.put d (some v), a.d⟩ = (tmpsOf n a).setIfInBounds d v := by
        apply Array.ext_getElem?
        intro i
        by_cases hi : i < n
        · rw [tmpsOf_get _ _ _ hi, Array.getElem?_setIfInBounds, tmpsOf_get _ _ _ hi]
          show some (((a.t.put d (some v)).get i).getD undef) = _
          rw [Tr.get_put]
          by_cases hd : d = i
          · subst hd; simp [tmpsOf_size, h]
          · rw [if_neg (Ne.symm hd), if_neg hd]
        · rw [Array.getElem?_eq_none (by rw [tmpsOf_size]; omega), Array.getElem?_eq_none (by simp [tmpsOf_size]; omega)]
      simp only [FA.act, Act.put, this]
    · rename_i h
      have : (tmpsOf n a).setIfInBounds d v = tmpsOf n a := by
        rw [Array.setIfInBounds_eq_of_size_le (by rw [tmpsOf_size]; exact Nat.not_lt.1 h)]
      simp only [FA.act, Act.put, this]

theorem fpure_eq {n : Nat} {a : FA} (h : a.ok n) (o : Oper) (H : AHeap) : fpure o H a = apure PP H (a.act n) o := by
  have he : (fun x => fEval x a) = (a.act n).eval := funext fun x => fEval_eq h x
  unfold fpure apure
  rw [he]
  have : (fun x => addrFree (fEval x a)) = fun x => addrFree ((a.act n).eval x) := funext fun x => by rw [fEval_eq h x]
  rw [this]
  rfl

theorem fargs_eq {n : Nat} {a : FA} (h : a.ok n) (xs : Array Operand) : fargs a xs = xs.map (a.act n).eval := by
  have : ∀ l : List Operand, (List.rec (motive := fun _ => FA → List Value) (fun _ => []) (fun x _ ih a => fEval x a :: ih a) l a) = l.map (a.act n).eval := by
    intro l
    induction l with
    | nil => rfl
    | cons x l ih => rw [List.map_cons, ← ih, ← fEval_eq h x]
  unfold fargs
  rw [this]
  apply Array.ext'; simp

theorem fvlist_eq {n : Nat} {a : FA} (h : a.ok n) (ps : Array (Nat × Operand)) : fvlist a ps = vlist (a.act n) ps := by
  unfold fvlist vlist
  congr 1
  funext p; rw [fEval_eq h]
end
end Go.Ev
/- The fast evaluator says what the plain one says: one operation. -/
namespace Go.Ev
open Go.Proofs
noncomputable section

theorem fbin_ok {n : Nat} {a : FA} (h : a.ok n) {op : BinOp} {t : TypeId} {x y : Operand} {yt : TypeId} {o : Oper} (ho : o.op = .binOp op t x y yt) {H : AHeap} {r : OpRes} (hr : fbin op t x y o H a = some r) :
    abin env H (a.act n) o op t x y = some r := by
  unfold fbin at hr
  rw [fEval_eq h x, fEval_eq h y] at hr
  split at hr
  · rename_i v hv
    cases hr
    obtain ⟨h1, h2, h3, h4⟩ := fbin2_ok (P := PP) (t := t) (x := x) (y := y) hv
    have hp : apure PP H (a.act n) o = some (.val v H) := by
      unfold apure
      have hall : (o.op.operands.all fun x => addrFree ((a.act n).eval x)) = true := by
        rw [ho]; simp [Op.operands, h2, h3]
      have hrun : pureRun PP (execOp (a.act n).eval o) = some (.value v) := by
        unfold execOp; rw [ho]; exact h1
      rw [if_pos hall, hrun]
      simp [h4]
    have hnil : aeqNil env t ((a.act n).eval x) ((a.act n).eval y) = none := by
      generalize (a.act n).eval x = vx at hv
      generalize (a.act n).eval y = vy at hv
      unfold fbin2 at hv
      split at hv
      · unfold aeqNil; split <;> simp_all
      · unfold aeqNil; split <;> simp_all
      · cases hv
    unfold abin
    split
    · rw [hnil]; exact hp
    · rw [hnil]; exact hp
    · exact hp
  · simp only [fpure_eq h] at hr
    unfold abin
    split at hr
    · exact hr
    · exact hr
    · rename_i h1 h2
      split
      · exact absurd rfl h1
      · exact absurd rfl h2
      · exact hr

theorem pureRun_und {P : Program} {t : TypeId} {d : TypeDesc} (h : P.underlying t = some d) {β : Type} (q : TypeDesc → Sem β) : pureRun P (underlying t >>= q) = pureRun P (q d) := by
  have e : pureRun P (underlying t >>= q) = pureRun P ((match P.underlying t with | some d => pure d | none => stuck "no such type") >>= q) := rfl
  rw [e, h]; rfl

theorem fconv_ok {n : Nat} {a : FA} (h : a.ok n) {src dst : TypeId} {x : Operand} {o : Oper} (ho : o.op = .convert src dst x) {H : AHeap} {r : OpRes} (hr : fconv src dst x o H a = some r) :
    (match (a.act n).eval x with
      | .slice .. => val1 H (abytes env H src dst ((a.act n).eval x))
      | _ => apure PP H (a.act n) o) = some r := by
  unfold fconv at hr
  rw [fEval_eq h x] at hr
  split at hr
  · rename_i p l c hx
    rw [hx]; exact hr
  · rename_i k m hx
    rw [hx]
    dsimp only
    split at hr
    · rename_i ds k' hs hd
      cases hr
      have h1 := env.hund hs
      have h2 := env.hund hd
      unfold apure
      have hall : (o.op.operands.all fun x => addrFree ((a.act n).eval x)) = true := by
        rw [ho]; simp [Op.operands, hx]; rfl
      have hrun : pureRun PP (execOp (a.act n).eval o) = some (.value (.int k' (fwrap k' m))) := by
        unfold execOp; rw [ho]
        simp only [hx, convert, bind_assoc]
        rw [pureRun_und h1, pureRun_und h2, fwrap_eq]
        rfl
      rw [if_pos hall, hrun]
      rfl
    · exact (fpure_eq h o H) ▸ hr
  · rename_i h1 h2
    rw [fpure_eq h] at hr
    split
    · rename_i hx; exact absurd hx (h1 _ _ _)
    · exact hr

theorem fcall_ok {n : Nat} {a : FA} (h : a.ok n) {c : Call} {o : Oper} {H : AHeap} {r : OpRes} (hr : fcall c o H a = some r) : acall env H (a.act n) o c = some r := by
  unfold fcall at hr
  unfold acall
  simp only [fEval_eq h, fargs_eq h, fpure_eq h] at hr
  exact hr

theorem strTree_in (l : List UInt8) : ∀ (k : Nat) (t : Tr Nat) (i : Nat),
    ((List.rec (motive := fun _ => Nat → Tr Nat → Tr Nat) (fun _ t => t) (fun b _ ih k t => ih (Nat.succ k) (t.put k (some b.toNat))) l) k t).get i = if k ≤ i ∧ i < k + l.length then (l[i - k]?).map (·.toNat) else t.get i := by
  induction l with
  | nil => intro k t i; simp; intro h1 h2; omega
  | cons x l ih =>
    intro k t i
    show ((List.rec (motive := fun _ => Nat → Tr Nat → Tr Nat) (fun _ t => t) (fun b _ ih k t => ih (Nat.succ k) (t.put k (some b.toNat))) l) (k + 1) (t.put k (some x.toNat))).get i = _
    rw [ih]
    by_cases h1 : k + 1 ≤ i ∧ i < k + 1 + l.length
    · rw [if_pos h1, if_pos (by simp; omega)]
      obtain ⟨d, rfl⟩ := Nat.exists_eq_add_of_le h1.1
      rw [show k + 1 + d - (k + 1) = d by omega, show k + 1 + d - k = d + 1 by omega]
      rfl
    · rw [if_neg h1, Tr.get_put]
      by_cases h2 : i = k
      · subst h2; rw [if_pos rfl, if_pos (by simp)]; simp
      · rw [if_neg h2, if_neg (by simp; omega)]

theorem strTree_get (s : ByteArray) (i : Nat) : (strTree s).get i = (s.data.toList[i]?).map (·.toNat) := by
  unfold strTree
  rw [strTree_in]
  by_cases h : i < s.data.toList.length
  · rw [if_pos (by omega)]; rfl
  · rw [if_neg (by omega), List.getElem?_eq_none (by omega)]; rfl
theorem ba_get (s : ByteArray) (k : Nat) : s[k]? = s.data.toList[k]? := by
  rcases Nat.lt_or_ge k s.size with h | h
  · rw [getElem?_pos s k h]
    have h2 : k < s.data.toList.length := by simpa using h
    rw [List.getElem?_eq_getElem h2]
    rfl
  · rw [getElem?_neg s k (by omega)]
    rw [List.getElem?_eq_none (by simpa using h)]

theorem index_str {P : Program} {t : TypeId} (ht : P.underlying t = some .string) {s : ByteArray} {kk : IntKind} {k : Nat} {b : UInt8} (hb : s[k]? = some b) :
    pureRun P (do pure (Next.value (← Instr.index t (.string s) (.int kk (.ofNat k))))) = some (.value (.int .u8 b.toNat)) := by
  have h0 : (0 : Int) ≤ Int.ofNat k := Int.natCast_nonneg k
  simp only [Instr.index, asIntOf, pure_bind, bind_assoc]
  rw [pureRun_und ht]
  simp only [h0, if_true, Int.toNat_natCast, Int.ofNat_eq_natCast, hb, pure_bind]
  rfl
theorem fstrAt_ok {n : Nat} {a : FA} {t : TypeId} {x i : Operand} {o : Oper} (ho : o.op = .index t x i) {s : ByteArray} (hx : (a.act n).eval x = .string s) {v : Value} (hv : fstrAt t s ((a.act n).eval i) = some v) (H : AHeap) :
    apure PP H (a.act n) o = some (.val v H) := by
  unfold fstrAt at hv
  split at hv
  · rename_i kk k ht hi
    split at hv
    · rename_i b hb
      cases hv
      rw [strTree_get] at hb
      obtain ⟨c, hc, rfl⟩ := Option.map_eq_some_iff.1 hb
      have hg : s[k]? = some c := by rw [ba_get]; exact hc
      unfold apure
      have hall : (o.op.operands.all fun x => addrFree ((a.act n).eval x)) = true := by
        rw [ho]; simp [Op.operands, hx, hi]; exact ⟨rfl, rfl⟩
      have hrun : pureRun PP (execOp (a.act n).eval o) = some (.value (.int .u8 (.ofNat c.toNat))) := by
        unfold execOp; rw [ho]
        simp only [hx, hi]
        exact index_str (env.hund ht) hg
      rw [if_pos hall, hrun]
      rfl
    · cases hv
  · cases hv

theorem fop_ok {n : Nat} {a : FA} (h : a.ok n) {o : Oper} {H : AHeap} {r : OpRes} (hr : fop o.op o H a = some r) : aop env H (a.act n) o = some r := by
  unfold aop
  generalize ho : o.op = op at hr
  cases op <;> first
    | (cases hr; done)
    | skip
  all_goals unfold fop at hr
  all_goals dsimp only at hr ⊢
  all_goals first
    | (simp only [fEval_eq h, fvlist_eq h, fargs_eq h] at hr; exact hr)
    | (simp only [fMove, fEval_eq h] at hr; exact hr)
    | skip
  · rename_i c x y
    rw [fEval_eq h c] at hr
    split at hr
    · rename_i b hb
      rw [hb]
      cases hr
      rw [fEval_eq h x, fEval_eq h y]
      cases b <;> rfl
    · cases hr
  · exact hr
  · unfold fNil at hr
    rw [fEval_eq h] at hr
    exact hr
  · exact fbin_ok h ho hr
  · exact (fpure_eq h o H) ▸ hr
  · exact fconv_ok h ho hr
  · rename_i f first cap
    cases f <;> first
      | (cases hr; done)
      | (simp only [fargs_eq h] at hr; exact hr)
  · rename_i t r0
    cases r0 <;> first
      | (cases hr; done)
      | exact hr
  · rename_i t x lo hi mx
    cases mx with
    | some m => cases hr
    | none =>
      dsimp only at hr ⊢
      rw [fEval_eq h x] at hr
      have e1 : (fun y => fEval y a) = (a.act n).eval := funext fun y => fEval_eq h y
      rw [e1] at hr
      split at hr
      · rename_i s hs
        rw [hs]; exact (fpure_eq h o H) ▸ hr
      · rename_i hs
        split
        · rename_i s hs2; exact absurd hs2 (hs s)
        · exact hr
  · rename_i t x i
    rw [fEval_eq h x, fEval_eq h i] at hr
    split at hr
    · rename_i s hs
      rw [hs]
      dsimp only
      split at hr
      · rename_i v hv
        cases hr
        exact fstrAt_ok ho hs hv H
      · exact (fpure_eq h o H) ▸ hr
    · rename_i hs
      split
      · rename_i s hs2; exact absurd hs2 (hs s)
      · exact hr
  · exact fcall_ok h hr
end
end Go.Ev
/- The fast evaluator says what the plain one says: operations in a row. -/
namespace Go.Ev
open Go.Proofs
noncomputable section

structure FRef (F : FR) (R : Recs) : Prop where
  call : ∀ f args H r, F.call f args H = some r → R.call f args H = some r
  round : ∀ l args H r, F.round l args H = some r → R.round l args H = some r
  loop : ∀ rd c n a H e a' H', F.loop rd c n a H = some (e, a', H') → a.ok n → a'.ok n ∧ R.loop rd c (a.act n) H = some (e, a'.act n, H')

theorem rec_true {β : Type} {c : Bool} {x : Option β} {r : β} (h : (Bool.rec (motive := fun _ => Option β) none x c) = some r) : c = true ∧ x = some r := by
  cases c with
  | false => cases h
  | true => exact ⟨rfl, h⟩

theorem fOp_ok {F : FR} {R : Recs} (hF : FRef F R) {n : Nat} {a : FA} (h : a.ok n) {o : Oper} {H : AHeap} {p : Value × AHeap} (hr : fOp o F H a = some p) : evOp env nG R H (a.act n) o = some p := by
  unfold fOp at hr
  obtain ⟨h1, h2⟩ := rec_true hr
  unfold okOper at h1
  unfold evOp
  rw [if_pos h1]
  cases hop : fop o.op o H a with
  | none => rw [hop] at h2; cases h2
  | some r =>
    rw [hop] at h2
    rw [fop_ok h hop]
    cases r with
    | val v H' => exact h2
    | call f args => exact hF.call f args H p h2
    | round l args => exact hF.round l args H p h2

theorem fYield_eq {n : Nat} {a : FA} (h : a.ok n) (ops : Array Oper) (j : Nat) (b : Bool) : fYield ops j b a = (yielded ops (a.act n).tmps j == some b) := by
  unfold fYield yielded
  cases (ops[j]?).bind (·.dst) with
  | none => rfl
  | some t =>
    simp only [Option.bind_some]
    show _ = ((match (tmpsOf n a)[t]? with | some (.bool b) => some b | _ => none) == some b)
    by_cases ht : t < n
    · rw [tmpsOf_get n a t ht]
      cases hg : a.t.get t with
      | none => rfl
      | some v => cases v <;> first
          | rfl
          | (rename_i c; cases b <;> cases c <;> rfl)
    · rw [h t (Nat.not_lt.1 ht), Array.getElem?_eq_none (by rw [tmpsOf_size]; exact Nat.not_lt.1 ht)]
      rfl

theorem fWant_eq {n : Nat} {a : FA} (h : a.ok n) (ops : Array Oper) (o : Oper) : fWant o.guard ops a = Region.wanted o (yielded ops (a.act n).tmps) := by
  unfold fWant Region.wanted
  cases hg : o.guard with
  | none => rfl
  | some g => exact fYield_eq h ops g.1 g.2

theorem fOps_ok {F : FR} {R : Recs} (hF : FRef F R) (ops : Array Oper) {n : Nat} : ∀ (l : List Oper) (a : FA) (H : AHeap) (a' : FA) (H' : AHeap), a.ok n → fOps l ops F n a H = some (a', H') →
    a'.ok n ∧ evOps env nG R ops l (a.act n) H = some (a'.act n, H') := by
  intro l
  induction l with
  | nil =>
    intro a H a' H' h hr
    cases hr
    exact ⟨h, rfl⟩
  | cons o l ih =>
    intro a H a' H' h hr
    change (Bool.rec (motive := fun _ => Option (FA × AHeap)) (fOps l ops F n (fPut o.dst undef n a) H)
      (Option.rec (motive := fun _ => Option (FA × AHeap)) none (Prod.rec (motive := fun _ => Option (FA × AHeap)) fun v H' => fOps l ops F n (fPut o.dst v n a) H') (fOp o F H a)) (fWant o.guard ops a)) = some (a', H') at hr
    unfold evOps
    rw [fWant_eq h] at hr
    cases hw : Region.wanted o (yielded ops (a.act n).tmps) with
    | false =>
      rw [hw] at hr
      rw [if_neg (by simp), ← fPut_act]
      exact ih _ _ _ _ (fPut_ok h _ _) hr
    | true =>
      rw [hw] at hr
      rw [if_pos rfl]
      cases hop : fOp o F H a with
      | none => rw [hop] at hr; cases hr
      | some p =>
        rw [hop] at hr
        obtain ⟨v, H1⟩ := p
        rw [fOp_ok hF h hop]
        dsimp only
        rw [← fPut_act]
        exact ih _ _ _ _ (fPut_ok h _ _) hr

theorem fillIn (l : List Value) : ∀ (k : Nat) (t : Tr Value) (i : Nat), ((l.zipIdx k).foldl (fun t p => t.put p.2 (some p.1)) t).get i = if k ≤ i ∧ i < k + l.length then l[i - k]? else t.get i := by
  induction l with
  | nil => intro k t i; simp; intro h1 h2; omega
  | cons x l ih =>
    intro k t i
    rw [List.zipIdx_cons, List.foldl_cons, ih]
    by_cases h1 : k + 1 ≤ i ∧ i < k + 1 + l.length
    · rw [if_pos h1, if_pos (by simp; omega)]
      obtain ⟨d, rfl⟩ := Nat.exists_eq_add_of_le h1.1
      rw [show k + 1 + d - (k + 1) = d by omega, show k + 1 + d - k = d + 1 by omega]
      rfl
    · rw [if_neg h1]
      show (t.put k (some x)).get i = _
      rw [Tr.get_put]
      by_cases h2 : i = k
      · subst h2; rw [if_pos rfl, if_pos (by simp)]; simp
      · rw [if_neg h2, if_neg (by simp; omega)]

theorem fill_get (l : List Value) (i : Nat) : (fill l).t.get i = l[i]? := by
  unfold fill
  show ((l.zipIdx 0).foldl (fun (t : Tr Value) p => t.put p.2 (some p.1)) .leaf).get i = _
  rw [fillIn]
  by_cases h : i < l.length
  · rw [if_pos (by omega)]; rfl
  · rw [if_neg (by omega), List.getElem?_eq_none (by omega)]; rfl

theorem fill_ok (l : List Value) {n : Nat} (h : l.length ≤ n) : (fill l).ok n := by
  intro t ht
  rw [fill_get, List.getElem?_eq_none (by omega)]

theorem fill_act (l : Array Value) {n : Nat} (h : l.size ≤ n) : (fill l.toList).act n = { tmps := l ++ Array.replicate (n - l.size) undef, defers := [] } := by
  have : tmpsOf n (fill l.toList) = l ++ Array.replicate (n - l.size) undef := by
    apply Array.ext_getElem?
    intro i
    by_cases hi : i < n
    · rw [tmpsOf_get _ _ _ hi, fill_get, Array.getElem?_append]
      split
      · rename_i h1; simp [h1]
      · rename_i h1
        have h2 : l.size ≤ i := Nat.not_lt.1 h1
        have h3 : i - l.size < n - l.size := by omega
        rw [List.getElem?_eq_none (by simpa using h2), Array.getElem?_replicate, if_pos h3]
        rfl
    · rw [Array.getElem?_eq_none (by rw [tmpsOf_size]; omega), Array.getElem?_eq_none (by simp; omega)]
  simp only [FA.act, this]
  rfl
end
end Go.Ev
/- The fast evaluator says what the plain one says: regions that draw their order. -/
namespace Go.Ev
open Go.Proofs
noncomputable section

abbrev Still := Nat × Oper × FA × Value
def toS (n : Nat) (x : Still) : Nat × Oper × Act × Value := (x.1, x.2.1, x.2.2.1.act n, x.2.2.2)
def FD.toD (n : Nat) (s : FD) : DState := ⟨s.a.act n, s.H, s.acts, s.news, s.stills.map (toS n), s.hist⟩

theorem fanew_ok {n : Nat} {a : FA} (h : a.ok n) {o : Oper} {m : Nat} {p : Value × AObj} (hr : fanew o a m = some p) : anew env (a.act n) o m = some p := by
  unfold fanew at hr
  unfold anew
  split at hr
  · rename_i v H hop
    rw [fop_ok h hop]
    exact hr
  · cases hr

theorem fGo_ok {F : FR} {R : Recs} (hF : FRef F R) (ops : Array Oper) {n base : Nat} : ∀ (l : List Oper) (i : Nat) (a : FA) (H : AHeap) (acts : List Nat) (news : List (Nat × AObj)) (stills : List Still) (hist : List (AHeap × List Nat)) (fd : FD),
    a.ok n → (∀ x ∈ stills, x.2.2.1.ok n) → fGo l ops F n base i a H acts news stills hist = some fd →
    fd.a.ok n ∧ (∀ x ∈ fd.stills, x.2.2.1.ok n) ∧ drawGo env nG R ops (ancOf ops) base l i ⟨a.act n, H, acts, news, stills.map (toS n), hist⟩ = some (fd.toD n) := by
  intro l
  induction l with
  | nil =>
    intro i a H acts news stills hist fd h hs hr
    cases hr
    exact ⟨h, hs, rfl⟩
  | cons o l ih =>
    intro i a H acts news stills hist fd h hs hr
    change (Bool.rec (motive := fun _ => Option FD) (fGo l ops F n base (i + 1) (fPut o.dst undef n a) H acts news stills hist)
      (Bool.rec (motive := fun _ => Option FD) none
        ((Kind.rec (motive := fun _ => DGo → Oper → DGo) dCalm dStill dFresh dActs (kindOf o.op)) (fGo l) o ops F n base i a H acts news stills hist) (okOper o)) (fWant o.guard ops a)) = some fd at hr
    rw [fWant_eq h] at hr
    unfold drawGo drawStep
    dsimp only
    cases hw : Region.wanted o (yielded ops (a.act n).tmps) with
    | false =>
      rw [hw] at hr
      rw [if_neg (by simp)]
      dsimp only
      rw [← fPut_act]
      exact ih _ _ _ _ _ _ _ _ (fPut_ok h _ _) hs hr
    | true =>
      rw [hw] at hr
      rw [if_pos rfl]
      obtain ⟨hok, hr⟩ := rec_true hr
      unfold okOper at hok
      rw [if_pos hok]
      cases hk : kindOf o.op with
      | calm =>
        rw [hk] at hr
        change dCalm (fGo l) o ops F n base i a H acts news stills hist = some fd at hr
        unfold dCalm at hr
        split at hr
        · rename_i v H1 hop
          rw [fop_ok h hop]
          dsimp only
          rw [← fPut_act]
          exact ih _ _ _ _ _ _ _ _ (fPut_ok h _ _) hs hr
        · cases hr
      | still =>
        rw [hk] at hr
        change dStill (fGo l) o ops F n base i a H acts news stills hist = some fd at hr
        unfold dStill at hr
        split at hr
        · rename_i v H1 hop
          have := fop_ok h hop
          unfold heapFor
          unfold ancBit at this
          dsimp only
          rw [this]
          dsimp only
          rw [← fPut_act]
          cases hord : ordered ops (ancOf ops) i with
          | true =>
            have : ordK ops i = true := hord
            rw [this] at hr
            rw [if_pos rfl]
            exact ih _ _ _ _ _ _ _ _ (fPut_ok h _ _) hs hr
          | false =>
            have : ordK ops i = false := hord
            rw [this] at hr
            rw [if_neg (by simp)]
            exact ih _ _ _ _ _ _ _ _ (fPut_ok h _ _) (fun x hx => by
              rcases List.mem_cons.1 hx with rfl | hx
              · exact h
              · exact hs x hx) hr
        · cases hr
      | fresh =>
        rw [hk] at hr
        change dFresh (fGo l) o ops F n base i a H acts news stills hist = some fd at hr
        unfold dFresh at hr
        split at hr
        · rename_i v ob hop
          rw [fanew_ok h hop]
          dsimp only
          rw [← fPut_act]
          exact ih _ _ _ _ _ _ _ _ (fPut_ok h _ _) hs hr
        · cases hr
      | acts =>
        rw [hk] at hr
        change dActs (fGo l) o ops F n base i a H acts news stills hist = some fd at hr
        unfold dActs at hr
        obtain ⟨hall, hr⟩ := rec_true hr
        unfold ancBit at hall
        dsimp only
        rw [if_pos hall]
        split at hr
        · rename_i v H1 hop
          have := fOp_ok hF h hop
          unfold heapFor
          unfold ancBit at this
          dsimp only
          rw [this]
          dsimp only
          rw [← fPut_act]
          exact ih _ _ _ _ _ _ _ _ (fPut_ok h _ _) hs hr
        · cases hr

theorem fstable_ok {ops : Array Oper} {base n : Nat} {s : FD} (hs : ∀ x ∈ s.stills, x.2.2.1.ok n) (h : fstable ops base s = true) : stable env (ancOf ops) base (s.toD n) = true := by
  unfold fstable at h
  rw [Bool.and_eq_true] at h
  unfold stable
  rw [Bool.and_eq_true]
  refine ⟨?_, h.2⟩
  rw [List.all_eq_true]
  intro x hx
  obtain ⟨y, hy, rfl⟩ := List.mem_map.1 hx
  have h1 := List.all_eq_true.1 h.1 y hy
  rw [List.all_eq_true]
  intro hh hhm
  have h2 := List.all_eq_true.1 h1 hh hhm
  rw [Bool.or_eq_true] at h2 ⊢
  rcases h2 with h2 | h2
  · exact .inl h2
  · right
    split at h2
    · rename_i u H2 hop
      have := fop_ok (hs y hy) hop
      unfold ancBit at this
      show (match aop env (heapAt (ancOf ops) base hh.1 hh.2 (fun j => ((ancOf ops).getD y.1 0).testBit j) s.news) (y.2.2.1.act n) y.2.1 with
        | some (.val u _) => veq 3 u y.2.2.2
        | _ => false) = true
      rw [this]
      exact h2
    · cases h2

theorem fDraw_ok {F : FR} {R : Recs} (hF : FRef F R) (ops : Array Oper) {n : Nat} {a : FA} {H : AHeap} {a' : FA} {H' : AHeap} (h : a.ok n) (hr : fDraw ops F n a H = some (a', H')) :
    a'.ok n ∧ evDraw env nG R ops (a.act n) H = some (a'.act n, H') := by
  unfold fDraw at hr
  obtain ⟨h1, h2⟩ := rec_true hr
  unfold evDraw
  rw [if_pos h1]
  split at h2
  · rename_i s hgo
    obtain ⟨g1, g2, g3⟩ := fGo_ok hF ops _ _ _ _ _ _ _ _ _ h (by simp) hgo
    obtain ⟨h3, h4⟩ := rec_true h2
    cases h4
    refine ⟨g1, ?_⟩
    rw [List.map_nil] at g3
    rw [g3]
    dsimp only
    rw [if_pos (fstable_ok g2 h3)]
    rfl
  · cases h2
end
end Go.Ev
/- The fast evaluator says what the plain one says: code, calls; so it is sound. -/
namespace Go.Ev
open Go.Proofs
noncomputable section

theorem fC_ok {F : FR} {R : Recs} (hF : FRef F R) : ∀ (c : Code) (rd : Option Nat) (n : Nat) (a : FA) (H : AHeap) (e : Exit) (a' : FA) (H' : AHeap), a.ok n → fC c F rd n a H = some (e, a', H') →
    a'.ok n ∧ evC env nG R (evDraw env nG R) rd c (a.act n) H = some (e, a'.act n, H') := by
  intro c
  induction c with
  | skip => intro rd n a H e a' H' h hr; cases hr; exact ⟨h, rfl⟩
  | region id ops d =>
    intro rd n a H e a' H' h hr
    change cRegion ops d F rd n a H = some (e, a', H') at hr
    unfold cRegion at hr
    unfold evC
    cases d with
    | false =>
      dsimp only at hr ⊢
      cases ho : fOpsA ops F n a H with
      | none => rw [ho] at hr; cases hr
      | some p =>
        rw [ho] at hr
        obtain ⟨a1, H1⟩ := p
        obtain ⟨h1, h2⟩ := fOps_ok hF ops ops.toList a H a1 H1 h ho
        cases hr
        rw [h2]; exact ⟨h1, rfl⟩
    | true =>
      dsimp only at hr ⊢
      cases ho : fDraw ops F n a H with
      | none => rw [ho] at hr; cases hr
      | some p =>
        rw [ho] at hr
        obtain ⟨a1, H1⟩ := p
        cases hr
        obtain ⟨h1, h2⟩ := fDraw_ok hF ops h ho
        rw [h2]; exact ⟨h1, rfl⟩
  | seq x y ihx ihy =>
    intro rd n a H e a' H' h hr
    change fSeq (fC x) (fC y) F rd n a H = some (e, a', H') at hr
    unfold fSeq at hr
    unfold evC
    split at hr
    · rename_i a1 H1 hx
      obtain ⟨h1, h2⟩ := ihx rd n a H _ _ _ h hx
      rw [h2]
      exact ihy rd n a1 H1 e a' H' h1 hr
    · rename_i hno
      obtain ⟨h1, h2⟩ := ihx rd n a H _ _ _ h hr
      refine ⟨h1, ?_⟩
      rw [h2]
      cases e <;> first
        | rfl
        | exact absurd hr (hno _ _)
  | cond c x y ihx ihy =>
    intro rd n a H e a' H' h hr
    change fCond c (fC x) (fC y) F rd n a H = some (e, a', H') at hr
    unfold fCond at hr
    unfold evC
    obtain ⟨hok, hr⟩ := rec_true hr
    rw [if_pos hok]
    rw [fEval_eq h c] at hr
    split at hr
    · rename_i b hb
      rw [hb]
      cases b with
      | true => exact ihx rd n a H e a' H' h hr
      | false => exact ihy rd n a H e a' H' h hr
    · cases hr
  | block id c ih =>
    intro rd n a H e a' H' h hr
    change fBlock id (fC c) F rd n a H = some (e, a', H') at hr
    unfold fBlock at hr
    unfold evC
    split at hr
    · rename_i id' a1 H1 hx
      obtain ⟨h1, h2⟩ := ih rd n a H _ _ _ h hx
      rw [h2]
      dsimp only
      rw [beq_nat] at hr
      by_cases hid : id' = id
      · rw [decide_eq_true hid] at hr
        cases hr
        rw [if_pos hid]; exact ⟨h1, rfl⟩
      · rw [decide_eq_false hid] at hr
        cases hr
        rw [if_neg hid]; exact ⟨h1, rfl⟩
    · rename_i hno
      obtain ⟨h1, h2⟩ := ih rd n a H _ _ _ h hr
      refine ⟨h1, ?_⟩
      rw [h2]
      cases e <;> first
        | rfl
        | exact absurd hr (hno _ _ _)
  | loop c ih =>
    intro rd n a H e a' H' h hr
    exact hF.loop rd c n a H e a' H' hr h
  | rangeFunc f ps asg body ih1 ih2 =>
    intro rd n a H e a' H' h hr
    change fRange f ps asg body F rd n a H = some (e, a', H') at hr
    unfold fRange at hr
    obtain ⟨hok, hr⟩ := rec_true hr
    show _ ∧ evRange env nG R rd f ps asg body (a.act n) H = _
    unfold evRange
    rw [if_pos hok]
    rw [fEval_eq h f] at hr
    split at hr
    · rename_i g first captured H1 marks hf hen
      rw [hf, hen]
      dsimp only
      split at hr
      · rename_i fn v H3 hfn hcall
        have hc := hF.call _ _ _ _ hcall
        rw [hfn]
        change R.call g (first ++ #[Value.func (Fn.yield H1.next) #[] #[]] ++ captured) (H1.add (.loop { state := .ready, pending := none, fn := 0, tmps := (a.act n).tmps, params := ps, assign := asg, body := body, defers := 0 })) = _ at hc
        rw [hc]
        dsimp only
        split at hr
        · rename_i r hget
          rw [hget]
          dsimp only
          split at hr
          · cases hr
          · rename_i hbusy
            rw [if_neg hbusy]
            split at hr
            · rename_i hp; cases r; dsimp only at hp; subst hp; cases hr; exact ⟨h, rfl⟩
            · rename_i hp; cases r; dsimp only at hp; subst hp; cases hr; exact ⟨h, rfl⟩
            · rename_i id hp; cases r; dsimp only at hp; subst hp; cases hr; exact ⟨h, rfl⟩
            · cases hr
        · cases hr
      · cases hr
    · cases hr
  | exit id => intro rd n a H e a' H' h hr; cases hr; exact ⟨h, rfl⟩
  | scope c ih => intro rd n a H e a' H' h hr; cases hr
  | label l => intro rd n a H e a' H' h hr; cases hr; exact ⟨h, rfl⟩
  | goto l => intro rd n a H e a' H' h hr; cases hr
  | ret => intro rd n a H e a' H' h hr; cases hr; exact ⟨h, rfl⟩
  | refuse w => intro rd n a H e a' H' h hr; cases hr
end
end Go.Ev
/- The fast evaluator is sound. -/
namespace Go.Ev
open Go.Proofs
noncomputable section

theorem fresult_eq {n : Nat} {a : FA} (h : a.ok n) (H : AHeap) (r : ResultVar) : fresult H a r = aresult env H (a.act n).tmps r := by
  have key : ∀ t : Tmp, (a.t.get t).getD undef = (a.act n).tmps.getD t undef := fun t => by
    have := fEval_eq h (.tmp t)
    rw [← opt_rec]; exact this
  cases r with
  | tmp t => exact congrArg some (key t)
  | cell c t => exact congrArg (aload env H t) (key c)

theorem fresults_eq {n : Nat} {a : FA} (h : a.ok n) (H : AHeap) : ∀ rs : List ResultVar, fresults H a rs = aresults env H (a.act n).tmps rs
  | [] => rfl
  | r :: rs => by
    unfold fresults aresults
    rw [fresult_eq h, fresults_eq h H rs]
    rfl

theorem fCall_ok {F : FR} {R : Recs} (hF : FRef F R) {f : FuncId} {args : Array Value} {H : AHeap} {p : Value × AHeap} (hr : fCall F f args H = some p) : evCall env nG R (evDraw env nG R) f args H = some p := by
  unfold fCall at hr
  unfold evCall
  split at hr
  · rename_i fn hfn
    rw [hfn]
    dsimp only
    split at hr
    · rename_i c hc
      rw [hc]
      dsimp only
      obtain ⟨hsz, hr⟩ := rec_true hr
      have hsz' : args.size ≤ fn.ntmps := Nat.le_of_ble_eq_true hsz
      split at hr
      · rename_i e a H1 hC
        obtain ⟨h1, h2⟩ := fC_ok hF c none fn.ntmps _ H e a H1 (fill_ok args.toList (by simpa using hsz')) hC
        rw [fill_act args hsz'] at h2
        rw [h2]
        dsimp only
        split at hr
        · split at hr
          · rename_i H2 hl
            rw [fresults_eq h1] at hr
            show (match aleave (a.act fn.ntmps).defers H1 with | some H2 => _ | none => none) = some p
            rw [show (a.act fn.ntmps).defers = a.d from rfl, hl]
            exact hr
          · cases hr
        · split at hr
          · rename_i H2 hl
            rw [fresults_eq h1] at hr
            show (match aleave (a.act fn.ntmps).defers H1 with | some H2 => _ | none => none) = some p
            rw [show (a.act fn.ntmps).defers = a.d from rfl, hl]
            exact hr
          · cases hr
        · cases hr
      · cases hr
    · cases hr
  · cases hr

theorem foldl_set_size : ∀ (l : List (Tmp × Value)) (t : Array Value), (l.foldl (fun (tmps : Array Value) (p : Tmp × Value) => tmps.setIfInBounds p.1 p.2) t).size = t.size
  | [], _ => rfl
  | p :: l, t => by rw [List.foldl_cons, foldl_set_size l]; simp

theorem fRound_ok {F : FR} {R : Recs} (hF : FRef F R) {l : Nat} {args : Array Value} {H : AHeap} {p : Value × AHeap} (hr : fRound F l args H = some p) : evRound env nG R (evDraw env nG R) l args H = some p := by
  unfold fRound at hr
  unfold evRound
  split at hr
  · rename_i r hg
    rw [hg]
    dsimp only
    split at hr
    · rename_i hsz
      rw [if_pos hsz]
      generalize ht : Array.foldl (fun tmps (x : Tmp × Value) => match x with | (t, a) => tmps.setIfInBounds t a) r.tmps (r.params.zip args) = T at hr
      have hT : T.size = r.tmps.size := by
        rw [← ht, ← Array.foldl_toList]
        exact foldl_set_size _ _
      split at hr
      · rename_i a1 H1 hC
        obtain ⟨h1, h2⟩ := fC_ok hF r.assign (some l) r.tmps.size _ H _ a1 H1 (fill_ok T.toList (by simp [hT])) hC
        rw [fill_act T (by omega), show r.tmps.size - T.size = 0 by omega] at h2
        have hT0 : T ++ Array.replicate 0 undef = T := by simp
        rw [hT0] at h2
        rw [h2]
        dsimp only
        split at hr
        · rename_i r1 hg1
          rw [hg1]
          dsimp only
          split at hr
          · rename_i hst
            rw [if_pos hst]
            split at hr
            · rename_i e a2 H3 hC2
              obtain ⟨h3, h4⟩ := fC_ok hF r.body (some l) r.tmps.size _ _ e a2 H3 h1 hC2
              rw [h4]
              exact hr
            · cases hr
          · cases hr
        · cases hr
      · cases hr
    · cases hr
  · cases hr

theorem fLoop_ok {F : FR} {R : Recs} (hF : FRef F R) {rd : Option Nat} {c : Code} {n : Nat} {a : FA} {H : AHeap} {e : Exit} {a' : FA} {H' : AHeap} (h : a.ok n) (hr : fLoop F rd c n a H = some (e, a', H')) :
    a'.ok n ∧ evLoop env nG R (evDraw env nG R) rd c (a.act n) H = some (e, a'.act n, H') := by
  unfold fLoop at hr
  unfold evLoop
  split at hr
  · rename_i a1 H1 hC
    obtain ⟨h1, h2⟩ := fC_ok hF c rd n a H _ a1 H1 h hC
    rw [h2]
    exact hF.loop rd c n a1 H1 e a' H' hr h1
  · rename_i hno
    obtain ⟨h1, h2⟩ := fC_ok hF c rd n a H e a' H' h hr
    refine ⟨h1, ?_⟩
    rw [h2]
    cases e <;> first
      | rfl
      | exact absurd hr (hno _ _)

theorem fv_ref : ∀ n, FRef (fv n) (ev env nG (evDraw env nG) n)
  | 0 => ⟨fun _ _ _ _ h => (by cases h), fun _ _ _ _ h => (by cases h), fun _ _ _ _ _ _ _ _ h => (by cases h)⟩
  | n + 1 => by
    have ih := fv_ref n
    exact ⟨fun f args H r h => fCall_ok ih h, fun l args H r h => fRound_ok ih h, fun rd c m a H e a' H' h hok => fLoop_ok ih hok h⟩

/-- **What the fast evaluator says of a call, the machine does, on every tape and in every order.** -/
theorem fv_ok (hmix : PP.follows .mixedOrders = true) {n : Nat} {f : FuncId} {args : Array Value} {H : AHeap} {v : Value} {H' : AHeap} (h : (fv n).call f args H = some (v, H')) {ν : Ren} {w : World} {args' : Array Value}
    (hH : HRel nG ν H w) (hG : nG ≤ H.next) (ha : ARel ν args args') : CallsIn Fence.wide 0 PP f args' w (RetPost nG ν H w v H') :=
  (evd_ok env env_good hmix n).call f args H v H' ((fv_ref n).call f args H _ h) ν w args' hH hG ha
end
end Go.Ev
