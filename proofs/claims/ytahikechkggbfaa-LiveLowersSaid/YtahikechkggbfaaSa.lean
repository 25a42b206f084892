/- Chapter 20: rows. -/
import Derived.Test.YtahikechkggbfaaLa
import Derived.Test.YtahikechkggbfaaEve
namespace Go.Proofs.Ytahikechkggbfaa
open Go Go.Ev Go.RowKit
set_option linter.unusedVariables false
set_option linter.unusedSimpArgs false
set_option maxRecDepth 100000
namespace Ls
def iiC (x : Int × Int × Int × Int × Int) : List Value := [.int .i64 x.1, .int .i64 x.2.1, .int .i64 x.2.2.1, .int .i64 x.2.2.2.1, .int .u32 x.2.2.2.2]
theorem iiC_len : ∀ x, (iiC x).length = 5 := fun _ => rfl
theorem iiC_pl : ∀ x, (iiC x).all plain = true := fun _ => rfl
def inC (x : Int) : List Value := [.int .i64 x]
theorem inC_len : ∀ x, (inC x).length = 1 := fun _ => rfl
theorem inC_pl : ∀ x, (inC x).all plain = true := fun _ => rfl
def ivC (x : Int × Int × Int) : List Value := [.int .i64 x.1, .int .i64 x.2.1, .int .i64 x.2.2]
theorem ivC_len : ∀ x, (ivC x).length = 3 := fun _ => rfl
theorem ivC_pl : ∀ x, (ivC x).all plain = true := fun _ => rfl
def boC (x : Bool) : List Value := [.bool x]
theorem boC_len : ∀ x, (boC x).length = 1 := fun _ => rfl
theorem boC_pl : ∀ x, (boC x).all plain = true := fun _ => rfl
abbrev II := Int × Int × Int × Int × Int
instance : OrcDat Lm.T0 := orcDat_none fun _ _ => rfl
instance : OrcDat Lm.T1 := orcDat_add inferInstance 12 Lm.sp12 fun l v h => by
  unfold Lm.sp12 at h
  split at h
  · rename_i n lo hi
    cases hb : Lm.inB n lo hi <;> rw [hb] at h <;> cases h
    exact ⟨rfl, rfl⟩
  · cases h
instance : OrcDat Lm.T2 := orcDat_add inferInstance 11 Lm.sp11 fun l v h => by
  unfold Lm.sp11 at h
  split at h
  · cases h; exact ⟨rfl, rfl⟩
  · cases h
end Ls
end Go.Proofs.Ytahikechkggbfaa
