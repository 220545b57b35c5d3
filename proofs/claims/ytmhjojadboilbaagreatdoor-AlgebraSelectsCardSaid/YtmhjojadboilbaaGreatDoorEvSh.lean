/- AlgebraSelects returns true on every tape and in every order, and turns nothing old. -/
import Derived.Test.YtmhjojadboilbaaGreatDoorEvSg
set_option linter.unusedVariables false
set_option linter.unusedSimpArgs false
set_option linter.unusedSectionVars false
namespace Go.Ev
open Go.Proofs Go.RowKit
noncomputable section

theorem ARel.of_addrFree {ν : Ren} {cs : Array Value} (h : cs.toList.all addrFree = true) : ARel ν cs cs :=
  ⟨rfl, fun _ hi => VRel.of_addrFree (List.all_eq_true.1 h _ (getD_mem hi))⟩

open Classical in
/-- What known() answers where the tables lie. -/
def knownF (ty : Nat → TypeId) (args : Array Value) (H : AHeap) : Option (Value × AHeap) := if args = #[] ∧ TabsIn ty H then some (.bool true, H) else none

theorem knownF_sound (ty : Nat → TypeId) (args : Array Value) (H : AHeap) (v : Value) (H' : AHeap) (h : knownF ty args H = some (v, H')) : Sound PP nG 13 args H v H' := by
  unfold knownF at h
  split at h
  · rename_i hc
    cases h
    obtain ⟨rfl, hT⟩ := hc
    exact known_sound hT
  · cases h

theorem knownF_eq {ty : Nat → TypeId} {H : AHeap} (h : TabsIn ty H) : knownF ty #[] H = some (.bool true, H) := by
  unfold knownF
  rw [if_pos ⟨rfl, h⟩]

def R46 : Recs := addF noRecs 46 (evCall env nG noRecs (evDraw env nG noRecs) 46)
theorem R46_ok : RecsOk PP nG R46 := addF_ok (noRecs_ok nG) fun _ _ _ _ h => sound_call env env_good hmix (noRecs_ok nG) h
def R20 : Recs := addF R46 20 (evCall env nG R46 (evDraw env nG R46) 20)
theorem R20_ok : RecsOk PP nG R20 := addF_ok R46_ok fun _ _ _ _ h => sound_call env env_good hmix R46_ok h
def R13 (ty : Nat → TypeId) : Recs := addF R20 13 (knownF ty)
theorem R13_ok (ty : Nat → TypeId) : RecsOk PP nG (R13 ty) := addF_ok R20_ok (knownF_sound ty)

theorem law5_ok {w : World} (h : Tabs w) (a b t : Int) : Calls Tryz.prog 5 #[.agg #[.int .i64 a, .int .i64 b], .int .i64 t] w fun e w' => e = .returned (.bool true) ∧ Below w.heap.size w w' := by
  obtain ⟨ν, ty, hr⟩ := hrel h
  have hN : (H0 ty).next = 14 := heapOf_next 14 _
  have h46 : ∀ H, R46.call 46 #[.int .i64 t] H = some (.int .i64 (t.fdiv (2 ^ 20)), H) := fun H => by
    rw [R46, addF_same]; exact slot_ev noRecs _ t H
  have hev := law5_ev (R := R13 ty) (a := a) (b := b) (t := t) (H0_tabs ty) (by rw [hN]; exact Nat.le_refl _)
    (fun H hT => by rw [R13, addF_same]; exact knownF_eq hT)
    (fun H => by rw [R13, addF_ne _ _ _ _ _ _ (by decide), R20, addF_same]; exact selects_ev (R := R46) h46)
  obtain ⟨H', hv⟩ := isTrue_some hev
  have hs : Sound PP nG 5 _ (H0 ty) (.bool true) H' := sound_call env env_good hmix (R13_ok ty) hv
  refine (callsIn_wide.1 (hs ν w #[.agg #[.int .i64 a, .int .i64 b], .int .i64 t] hr (by rw [hN]; decide) (ARel.of_addrFree (by simp [addrFree, flat])))).mono fun e w' hq => ?_
  obtain ⟨ν', v', he, hvr, _, hl⟩ := hq
  cases hvr
  exact ⟨he, below_of_later hl (H0_dead ty)⟩
end
end Go.Ev
