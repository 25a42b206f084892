/- The evaluator's tables, read off a program. -/
import Derived.Test.YthmcpmdohmfeiaaGreatDoorEvT
namespace Go.Ev
open Go
set_option linter.unusedVariables false
def tabOf (P : Program) : Tab where
  under t := P.underlying t
  size t := match P.info? t with | some i => some i.size | none => none
  bytes t := match P.info? t with | some i => some i.bytes | none => none
  zero t := match P.info? t with
    | some i => match i.zero with
      | some z => bif z.cells.size.beq i.size && z.cells.all (·.oneCell') then some z else none
      | none => none
    | none => none
  fn f := match P.funcs[f]? with
    | some fn => bif fn.body.isSome then some fn else none
    | none => none
  orc _ _ := none
theorem tabOf_ok (P : Program) : TabOk P (tabOf P) where
  under := fun t d h => h
  size := fun t n h => by
    simp only [tabOf] at h
    split at h
    · rename_i i hi; cases h; exact ⟨i, hi, rfl⟩
    · cases h
  bytes := fun t n h => by
    simp only [tabOf] at h
    split at h
    · rename_i i hi; cases h; exact ⟨i, hi, rfl⟩
    · cases h
  zero := fun t z h => by
    simp only [tabOf] at h
    split at h
    · rename_i i hi
      split at h
      · rename_i z' hz
        cases hb : (z'.cells.size.beq i.size && z'.cells.all (·.oneCell'))
        · rw [hb] at h; cases h
        · rw [hb] at h; cases h
          simp only [Bool.and_eq_true] at hb
          exact ⟨i, hi, hz, Nat.eq_of_beq_eq_true hb.1, hb.2⟩
      · cases h
    · cases h
def fnOk (P : Program) (f : FuncId) : Bool := match P.funcs[f]? with
  | some fn => match fn.body with
    | some c => codeOk (tabOf P) c && !(fn.name == "runtime.NumGoroutine")
    | none => true
  | none => true
def progOkB (P : Program) : Bool := (List.range P.funcs.size).all (fnOk P)
theorem progOk_of [Bs] {P : Program} (hm : P.follows .mixedOrders = true) (h : progOkB P = true) : ProgOk P (tabOf P) := by
  have key : ∀ f fn, (tabOf P).fn f = some fn → P.funcs[f]? = some fn ∧ fn.body.isSome = true ∧ fnOk P f = true := by
    intro f fn hf
    simp only [tabOf] at hf
    split at hf
    · rename_i fn' hfn
      cases hb : fn'.body.isSome
      · rw [hb] at hf; cases hf
      · rw [hb] at hf; cases hf
        exact ⟨hfn, hb, List.all_eq_true.1 h f (by simpa using (Array.getElem?_eq_some_iff.1 hfn).1)⟩
    · cases hf
  refine ⟨tabOf_ok P, ⟨fun f fn hf => ?_, fun f h => (by cases h)⟩, fun f fn c hf hb => ?_, hm, fun f args v h => (by cases h), fun f args H v h => (by cases h)⟩
  · obtain ⟨h1, h2, h3⟩ := key f fn hf
    refine ⟨h1, h2, ?_⟩
    obtain ⟨c, hc⟩ := Option.isSome_iff_exists.1 h2
    unfold fnOk at h3
    simp only [h1, hc, Bool.and_eq_true, Bool.not_eq_true'] at h3
    exact h3.2
  · obtain ⟨h1, h2, h3⟩ := key f fn hf
    unfold fnOk at h3
    simp only [h1, hb, Bool.and_eq_true] at h3
    exact h3.1
end Go.Ev
