/- The program does some of what it must (innkeepertop.awake): run once, told in short from there on. -/
import Derived.Test.YthmcpmdohmfeiaaGreatDoorTz
namespace Go.Proofs.YthmcpmdohmfeiaaGreatDoor
open Go Go.Ev
set_option linter.unusedVariables false
set_option maxRecDepth 100000
namespace Tp
noncomputable section
theorem awake_run : callN (EG2 [] []) 100 22 [] em 0 (fun v _ _ => isT v) = tt := by kernel_rfl
open Classical in
def sp22 (l : List Value) (_ : Heap) : Option Value := if l = [] then some (.bool true) else none
theorem sp22_sound [Bs] [Tz1] (args : Array Value) (H : Heap) (v : Value) (h : sp22 args.toList H = some v) : closed v = true ∧ ∀ (m : Map) (w : World) (args' : Array Value), HWf H → Rep Tryz.prog m H w → VRs m args.toList args'.toList → Calls Tryz.prog 22 args' w fun e w' => e = .returned v ∧ Quiet w w' := by
  unfold sp22 at h
  split at h
  · rename_i hl
    cases h
    refine ⟨rfl, fun m w args' _ hr ha => ?_⟩
    have hy : args' = #[] := by
      rw [hl] at ha
      apply Array.ext'
      exact List.eq_nil_of_length_eq_zero (by rw [← ha.1]; rfl)
    subst hy
    have hcall : ACall Tryz.prog T2 22 ⟨instL (fun _ => 0) []⟩ (instH (fun _ => 0) em 0) fun r _ => r = .bool true := run_call (EG2_ok (fun _ h => by cases h) (fun _ h => by cases h)) 100 awake_run fun v t' m' hk => isT_inst hk
    have hwf : HWf (instH (fun _ => 0) em 0) := fun b hb => by rw [em_get] at hb; simp at hb
    have hr0 : Rep Tryz.prog (fun _ => none) (instH (fun _ => 0) em 0) w := ⟨⟨fun b L hb => (by cases hb), fun b L o hb => (by cases hb), fun b1 b2 L1 L2 hb => (by cases hb)⟩, ⟨hr.bas.toOnBs, fun b L hb => (by cases hb)⟩⟩
    refine (hcall.calls progOk2 hwf hr0 (args' := #[]) ⟨rfl, fun i x hx => by simp [instL] at hx⟩).mono fun e w' hp => ?_
    obtain ⟨v1, H', rfl, v', m', rfl, hv', _, hf⟩ := hp
    rw [hv'.plain_eq rfl]
    exact ⟨rfl, hf.os, hf.tape, hf.output, hf.size, fun c hc => hf.keep c hc (by rintro ⟨b, L, hb, _⟩; cases hb)⟩
  · cases h
/-- The tables: awake is known besides. -/
def T2a : Tab := { T2 with fn := fun f => bif Nat.beq f 22 then none else T2.fn f, mor := fun f l H => bif Nat.beq f 22 then same sp22 l H else T2.mor f l H, has := fun f => bif Nat.beq f 22 then true else T2.has f }
theorem progOk2a [Bs] [Tz1] : ProgOk Tryz.prog T2a := ProgOk.withMor progOk2 22 (by kernel_rfl) sp22 sp22_sound
def awK (args : List SV) (t : HT) (m : Nat) (K : KV) : Bool := match args with
  | [] => K .t t m
  | _ => false
theorem awK_ok {ρ : Nat → Nat} {T : Tab} (ho : ∀ f l, T.orc f l = none) (hf : T.fn 22 = none) (hm : ∀ l H, T.mor 22 l H = same sp22 l H) (args : List SV) (t : HT) (m : Nat) (K : KV) (R : Value → Heap → Prop) (h : awK args t m K = true) (hR : ∀ v t' m', K v t' m' = true → R (v.inst ρ) (instH ρ t' m')) : ACall Tryz.prog T 22 ⟨instL ρ args⟩ (instH ρ t m) R := by
  unfold awK at h
  split at h
  · refine acall_mor (v := .bool true) (ho _ _) hf ((hm _ _).trans (same_of ?_)) (hR .t t m h)
    unfold sp22
    exact if_pos rfl
  · cases h
end
end Tp
end Go.Proofs.YthmcpmdohmfeiaaGreatDoor
