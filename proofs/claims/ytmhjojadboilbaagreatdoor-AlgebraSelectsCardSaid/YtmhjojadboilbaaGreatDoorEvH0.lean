/- The tables of the program in the evaluator's memory; and one run of known() by the kernel. -/
import Derived.Test.YtmhjojadboilbaaGreatDoorEvQ
import Derived.KernelRfl
set_option linter.unusedVariables false
set_option linter.unusedSimpArgs false
set_option linter.unusedSectionVars false
namespace Go.Ev
open Go.Proofs
noncomputable section

def heapOf (next : Nat) : List (Nat × AObj) → AHeap
  | [] => ⟨.leaf, next⟩
  | x :: xs => (heapOf next xs).put x.1 (some x.2)

/-- The two objects of a string table: the variable's and the row's. -/
def strsVar (k : Nat) (vals : List ByteArray) (t : TypeId) : AObj := .cells #[.slice (some ⟨k, 0, none⟩) vals.length vals.length] t none false []
def strsRow (vals : List ByteArray) (t : TypeId) : AObj := .cells (vals.map Value.string).toArray t none false []
def cellsVar (cells : List Value) (t : TypeId) : AObj := .cells cells.toArray t none false []

def relationNames : List ByteArray := [⟨#[]⟩, ⟨#[112, 97, 114, 101, 110, 116]⟩, ⟨#[97, 110, 99, 101, 115, 116, 111, 114]⟩, ⟨#[115, 105, 98, 108, 105, 110, 103]⟩, ⟨#[98, 101, 102, 111, 114, 101]⟩, ⟨#[108, 105, 110, 107]⟩]
def aggregateNames : List ByteArray := [⟨#[]⟩, ⟨#[109, 97, 116, 99, 104, 101, 115]⟩, ⟨#[116, 114, 97, 99, 101, 115]⟩, ⟨#[101, 115, 116, 105, 109, 97, 116, 101]⟩, ⟨#[115, 117, 109]⟩, ⟨#[108, 101, 97, 115, 116]⟩, ⟨#[103, 114, 101, 97, 116, 101, 115, 116]⟩, ⟨#[113, 117, 97, 110, 116, 105, 108, 101]⟩, ⟨#[100, 105, 115, 116, 105, 110, 99, 116]⟩]
def tight : List ByteArray := [⟨#[123]⟩, ⟨#[40]⟩, ⟨#[46]⟩]
def closing : List ByteArray := [⟨#[125]⟩, ⟨#[41]⟩, ⟨#[44]⟩, ⟨#[123]⟩, ⟨#[46]⟩]
def asciiTab : List Int := [0, 0, 0, 0, 0, 0, 0, 0, 0, 1, 1, 1, 1, 1, 0, 0, 0, 0, 0, 0, 0, 0, 0, 0, 0, 0, 0, 0, 0, 0, 0, 0, 1, 0, 0, 0, 0, 0, 0, 0, 0, 0, 0, 0, 0, 0, 0, 0, 0, 0, 0, 0, 0, 0, 0, 0, 0, 0, 0, 0, 0, 0, 0, 0, 0, 0, 0, 0, 0, 0, 0, 0, 0, 0, 0, 0, 0, 0, 0, 0, 0, 0, 0, 0, 0, 0, 0, 0, 0, 0, 0, 0, 0, 0, 0, 0, 0, 0, 0, 0, 0, 0, 0, 0, 0, 0, 0, 0, 0, 0, 0, 0, 0, 0, 0, 0, 0, 0, 0, 0, 0, 0, 0, 0, 0, 0, 0, 0, 0, 0, 0, 0, 0, 0, 0, 0, 0, 0, 0, 0, 0, 0, 0, 0, 0, 0, 0, 0, 0, 0, 0, 0, 0, 0, 0, 0, 0, 0, 0, 0, 0, 0, 0, 0, 0, 0, 0, 0, 0, 0, 0, 0, 0, 0, 0, 0, 0, 0, 0, 0, 0, 0, 0, 0, 0, 0, 0, 0, 0, 0, 0, 0, 0, 0, 0, 0, 0, 0, 0, 0, 0, 0, 0, 0, 0, 0, 0, 0, 0, 0, 0, 0, 0, 0, 0, 0, 0, 0, 0, 0, 0, 0, 0, 0, 0, 0, 0, 0, 0, 0, 0, 0, 0, 0, 0, 0, 0, 0, 0, 0, 0, 0, 0, 0, 0, 0, 0, 0, 0, 0, 0, 0, 0, 0, 0, 0]

/-- The memory of the tables; t: the types of the blocks, whatever they are. -/
def H0 (t : Nat → TypeId) : AHeap := heapOf 14 [(0, strsVar 10 relationNames (t 0)), (10, strsRow relationNames (t 1)), (1, strsVar 11 aggregateNames (t 2)), (11, strsRow aggregateNames (t 3)),
  (2, cellsVar (asciiTab.map (Value.int .u8)) (t 4)), (3, strsVar 12 tight (t 5)), (12, strsRow tight (t 6)), (4, strsVar 13 closing (t 7)), (13, strsRow closing (t 8))]

def isTrue (r : Option (Value × AHeap)) : Bool :=
  match r with
  | some (.bool true, _) => true
  | _ => false

theorem isTrue_some {r : Option (Value × AHeap)} (h : isTrue r = true) : ∃ H', r = some (.bool true, H') := by
  unfold isTrue at h
  split at h
  · exact ⟨_, rfl⟩
  · cases h

/-- What known() comes to. -/
theorem known_run : (fun t => isTrue ((fv 4000).call 13 #[] (H0 t))) = fun _ => true := by kernel_rfl
end
end Go.Ev
