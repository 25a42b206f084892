/- The top: the program's tables, a great zero, from a run by the kernel to a call's answer. -/
import Derived.Test.YthmcpmdohmfeiaaGreatDoorEa6
import Derived.Test.YthmcpmdohmfeiaaGreatDoorCards
import Derived.Test.YthmcpmdohmfeiaaGreatDoorTie
import Derived.KernelRfl
import Derived.ProofKit
import Derived.LaidMore
import Derived.OpenShut
import Derived.Stop.Joined
import Derived.Stop.LaidErr
import Derived.MakeChecks
import Derived.SevenTiedAt
import Derived.WideKeyArgs
namespace Go.Proofs.YthmcpmdohmfeiaaGreatDoor
open Go Go.Ev Go.ChangeShapes Go.WideShapes Go.ChangeAt Go.RowKit
set_option linter.unusedVariables false
set_option linter.unusedSimpArgs false
set_option maxRecDepth 100000
namespace Tp
noncomputable section
def tt : Bool := true
def isRep (t : Value → Bool) (n : Nat) : List Value → (List Value → Bool) → Bool := Nat.rec (motive := fun _ => List Value → (List Value → Bool) → Bool) (fun l K => K l) (fun _ ih l K => List.rec (motive := fun _ => Bool) false (fun a r _ => ifK (t a) (ih r K) false) l) n
theorem isRep_true {t : Value → Bool} {v : Value} (ht : ∀ a, t a = true → a = v) : ∀ (n : Nat) {l : List Value} {K : List Value → Bool}, isRep t n l K = true → ∃ r, l = List.replicate n v ++ r ∧ K r = true := by
  intro n
  induction n with
  | zero => intro l K h; exact ⟨l, rfl, h⟩
  | succ n ih =>
    intro l K h
    cases l with
    | nil => cases h
    | cons a l =>
      obtain ⟨h1, h⟩ := ifF_true (a := t a) h
      obtain ⟨r, h2, h3⟩ := ih h
      exact ⟨r, by rw [ht a h1, h2, List.replicate_succ]; rfl, h3⟩
def zU8 (v : Value) : Bool := match v with | .int .u8 (.ofNat 0) => true | _ => false
def zI64 (v : Value) : Bool := match v with | .int .i64 (.ofNat 0) => true | _ => false
def nilV (l : List Value) : Bool := List.rec (motive := fun _ => Bool) true (fun _ _ _ => false) l
theorem zU8' {v : Value} (h : zU8 v = true) : v = (Z0.i .u8).val := by
  unfold zU8 at h; split at h <;> first | rfl | cases h
theorem zI64' {v : Value} (h : zI64 v = true) : v = (Z0.i .i64).val := by
  unfold zI64 at h; split at h <;> first | rfl | cases h
def poolZ : List (Nat × Z0) := [(16384, .i .u8), (260, .i .i64)]
theorem pool_run : (isRep zU8 16384 Tryz.zeroCells110.toList fun l => isRep zI64 260 l nilV) = tt := by kernel_rfl
theorem pool_list : Tryz.zeroCells110.toList = flatZ poolZ := by
  obtain ⟨r, h1, h⟩ := isRep_true (v := (Z0.i .u8).val) (fun a => zU8') _ pool_run
  obtain ⟨r2, h2, h3⟩ := isRep_true (v := (Z0.i .i64).val) (fun a => zI64') _ h
  cases r2 with
  | cons a l => cases h3
  | nil => rw [h1, h2]; rfl
theorem pool_zero : (tabOf Tryz.prog).zero 110 = some (.agg ⟨flatZ poolZ⟩) := by
  have hi : Tryz.prog.info? 110 = some Tryz.t110 := Tryz.type110
  have hz : Tryz.t110.zero = some (.agg Tryz.zeroCells110) := by kernel_rfl
  have hs : Tryz.t110.size = 16644 := by kernel_rfl
  have hc : Tryz.zeroCells110 = ⟨flatZ poolZ⟩ := by rw [← pool_list]
  have hl : (flatZ poolZ).length = 16644 := by
    show (List.replicate 16384 (Z0.i .u8).val ++ (List.replicate 260 (Z0.i .i64).val ++ [])).length = 16644
    rw [List.length_append, List.length_append, List.length_replicate, List.length_replicate, List.length_nil]
  have ha : (flatZ poolZ).all (·.oneCell') = true := by
    rw [List.all_eq_true]
    intro v hv
    have hv : v ∈ List.replicate 16384 (Z0.i .u8).val ++ (List.replicate 260 (Z0.i .i64).val ++ []) := hv
    rcases List.mem_append.1 hv with h | h
    · rw [List.eq_of_mem_replicate h]; rfl
    · rcases List.mem_append.1 h with h | h
      · rw [List.eq_of_mem_replicate h]; rfl
      · cases h
  have hz2 : Tryz.t110.zero = some (.agg ⟨flatZ poolZ⟩) := by rw [hz, hc]
  have hb : ((⟨flatZ poolZ⟩ : Array Value).size.beq 16644 && (⟨flatZ poolZ⟩ : Array Value).all (·.oneCell')) = true := by
    rw [← Array.all_toList, ha, ← Array.length_toList]
    show (Nat.beq (flatZ poolZ).length 16644 && true) = true
    rw [hl]; rfl
  unfold tabOf
  simp only [hi, hz2, hs]
  show (bif ((⟨flatZ poolZ⟩ : Array Value).size.beq 16644 && (⟨flatZ poolZ⟩ : Array Value).all (·.oneCell')) then _ else _) = _
  rw [hb]; rfl
/-! The environment -/
def ztT (t : TypeId) : Option (List (Nat × Z0)) := Bool.rec none (some poolZ) (Nat.beq t 110)
/-- The program, and what is taken for granted of its words. -/
def EG (G : List Asm) : Env := ⟨Tryz.prog, tabOf Tryz.prog, ztT, G, fun _ => none⟩
theorem ztT_ok (e : TypeId) (zs : List (Nat × Z0)) (h : ztT e = some zs) : (tabOf Tryz.prog).zero e = some (.agg ⟨flatZ zs⟩) := by
  unfold ztT at h
  cases hb : Nat.beq e 110
  · rw [hb] at h; cases h
  · rw [hb] at h; cases h
    obtain rfl := Nat.eq_of_beq_eq_true hb
    exact pool_zero
theorem EG_ok {ρ : Nat → Nat} {G : List Asm} (hG : ∀ a ∈ G, a.ok ρ) : EnvOk ρ (EG G) where
  zt := ztT_ok
  G := hG
  orc := fun _ _ => rfl
  mac := fun g h hm => by cases hm
theorem progOk0 [Bs] : ProgOk Tryz.prog (tabOf Tryz.prog) := progOk_of (by kernel_rfl) (by kernel_rfl)
/-- No memory. -/
def em : HT := nRep none 5
theorem em_get (ρ : Nat → Nat) (b : Nat) : (instH ρ em 0).get b = none := by
  by_cases h : b < 32767
  · rw [get_instH h]
    unfold hAt em
    rw [nAt_rep]; rfl
  · refine full_none 15 (fun b => (hAt b em).map (SOb.inst ρ)) b ?_
    have e : (2 : Nat) ^ 15 = 32768 := rfl
    omega
/-- A word that is not known. -/
def wd (i : Nat) (k : IntKind) (b : Nat) : SV := .w k [.v i 0 b]
theorem wd_inst {ρ : Nat → Nat} {i : Nat} {k : IntKind} {b : Nat} {a : Int} (h0 : 0 ≤ a) (h1 : a < 2 ^ b) (hρ : ρ i = a.toNat) : (wd i k b).inst ρ = .int k a := by
  have e : a.toNat % 2 ^ b = a.toNat := Nat.mod_eq_of_lt (by
    have : ((2 : Int) ^ b) = ((2 ^ b : Nat) : Int) := by simp
    omega)
  show Value.int k (Int.ofNat (evW ρ [.v i 0 b])) = _
  have : evW ρ [.v i 0 b] = a.toNat := by simp [evW, Seg.val, hρ, e]
  rw [this]
  congr 1
  show ((a.toNat : Nat) : Int) = a
  omega
def isT (v : SV) : Bool := match v with
  | .t => true
  | _ => false
theorem isT_inst {ρ : Nat → Nat} {v : SV} (h : isT v = true) : v.inst ρ = .bool true := by
  unfold isT at h
  split at h
  · rfl
  · cases h
end
end Tp
end Go.Proofs.YthmcpmdohmfeiaaGreatDoor
