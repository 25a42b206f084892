/- A law's run, in which a guest's running till it is halted is told in short. -/
import Derived.Test.YthmcpmdohmfeiaaGreatDoorTv
import Derived.Test.YthmcpmdohmfeiaaGreatDoorEa7
namespace Go.Proofs.YthmcpmdohmfeiaaGreatDoor
open Go Go.Ev Go.ChangeShapes Go.WideShapes Go.ChangeAt Go.RowKit
set_option linter.unusedVariables false
set_option linter.unusedSimpArgs false
set_option maxRecDepth 100000
namespace Tp
noncomputable section
/-- The tables: until is known besides. -/
def T3 (M : List Value → Heap → Option (Value × Heap)) : Tab := { T5 with fn := fun f => bif Nat.beq f 34 then none else T5.fn f, mor := fun f l H => bif Nat.beq f 34 then M l H else T5.mor f l H, has := fun f => bif Nat.beq f 34 then true else T5.has f }
theorem progOk3 [Bs] [Tz1] {ρ : Nat → Nat} {a b : Job} (ha : JobOk Tryz.prog 34 ρ a) (hb : JobOk Tryz.prog 34 ρ b) : ProgOk Tryz.prog (T3 (spJ ρ 5 a b)) :=
  ProgOk.withMorH progOk5 34 (by kernel_rfl) (spJ ρ 5 a b) (spJ_sound ha hb)
/-- The program; some calls are told in short, until among them. -/
def EG3 (M : List Value → Heap → Option (Value × Heap)) (G : List Asm) (WL : WLs) (a b : Job) : Env := ⟨Tryz.prog, T3 M, ztT, G, fun g => bif Nat.beq g 34 then some (twoK G 5 a b) else mac5 G WL g⟩
theorem mac5_T3 (M : List Value → Heap → Option (Value × Heap)) : Mac5 (T3 M) := ⟨fun _ _ => rfl, ⟨rfl, fun _ _ => rfl⟩, ⟨rfl, fun _ _ => rfl⟩, ⟨rfl, fun _ _ => rfl⟩, ⟨rfl, fun _ _ => rfl⟩, ⟨rfl, fun _ _ => rfl⟩, ⟨rfl, fun _ _ => rfl⟩, ⟨rfl, fun _ _ => rfl⟩, ⟨rfl, fun _ _ => rfl⟩⟩
theorem EG3_ok {ρ : Nat → Nat} {G : List Asm} {WL : WLs} {a b : Job} (hG : ∀ a ∈ G, a.ok ρ) (hW : WOk ρ WL) (la : Led (tbH a.S (valS ρ a.X))) (lb : Led (tbH b.S (valS ρ b.X))) (na : a.S.length ≤ 32767) (nb : b.S.length ≤ 32767) : EnvOk ρ (EG3 (spJ ρ 5 a b) G WL a b) where
  zt := ztT_ok
  G := hG
  orc := fun _ _ => rfl
  mac := fun g h hm => by
    have hm : (bif Nat.beq g 34 then some (twoK G 5 a b) else mac5 G WL g) = some h := hm
    cases hb : Nat.beq g 34
    · rw [hb] at hm; exact mac5_ok (mac5_T3 _) hG hW hm
    · rw [hb] at hm; cases hm
      obtain rfl := Nat.eq_of_beq_eq_true hb
      exact fun args t m K R hk hR => twoK_ok (fun _ _ => rfl) rfl (fun _ _ => rfl) hG la lb na nb args t m K R hk hR
/-- A law's run: it answers true. -/
def lawRunJ (M : List Value → Heap → Option (Value × Heap)) (G : List Asm) (WL : WLs) (a b : Job) (f : FuncId) (args : List SV) : Bool := callN (EG3 M G WL a b) 100 f args em 0 fun v _ _ => isT v
theorem law_callsJ {ρ : Nat → Nat} {G : List Asm} (hG : ∀ a ∈ G, a.ok ρ) {WL : WLs} (hW : WOk ρ WL) {W : World} (hL : laidMetH Tryz.prog laid1 W) {a b : Job} (ha : ∀ [Bs] [Tz1], JobOk Tryz.prog 34 ρ a) (hb : ∀ [Bs] [Tz1], JobOk Tryz.prog 34 ρ b) (na : a.S.length ≤ 32767) (nb : b.S.length ≤ 32767)
    {f : FuncId} {args : List SV} {vs : Array Value} (h : ∀ M, lawRunJ M G WL a b f args = tt) (hv : (⟨instL ρ args⟩ : Array Value) = vs) (hc : ∀ x ∈ vs.toList, closed x = true) :
    Calls Tryz.prog f vs W fun e w' => e = .returned (.bool true) ∧ Below W.heap.size W w' := by
  letI : Bs := ⟨W, W.heap.size⟩
  haveI : Tz1 := tz_of hL
  have hw : OnBs W := @OnBs.mk ⟨W, W.heap.size⟩ W (Nat.le_refl _) (fun _ _ => rfl)
  subst hv
  have ja := ha
  have jb := hb
  have hcall : ACall Tryz.prog (T3 (spJ ρ 5 a b)) f ⟨instL ρ args⟩ (instH ρ em 0) fun r _ => r = .bool true := run_call (EG3_ok hG hW ja.led jb.led na nb) 100 (h _) fun v t' m' hk => isT_inst hk
  have hwf : HWf (instH ρ em 0) := fun b hb => by rw [em_get] at hb; simp at hb
  have hr : Rep Tryz.prog (fun _ => none) (instH ρ em 0) W := ⟨⟨fun b L hb => (by cases hb), fun b L o hb => (by cases hb), fun b1 b2 L1 L2 hb => (by cases hb)⟩, ⟨hw, fun b L hb => (by cases hb)⟩⟩
  refine (hcall.calls (progOk3 ja jb) hwf hr (args' := ⟨instL ρ args⟩) ⟨rfl, fun i x hx => ⟨x, hx, VR.of_closed (hc x (List.mem_of_getElem? hx))⟩⟩).mono fun e w' hp => ?_
  obtain ⟨v1, H', rfl, v', m', rfl, hv', _, hf⟩ := hp
  rw [hv'.plain_eq rfl]
  exact ⟨rfl, hf.os, hf.tape, hf.output, hf.size, fun c hc => hf.keep c hc (by rintro ⟨b, L, hb, _⟩; cases hb)⟩
/-! Runs of eight, looks at the state: what they come to -/
def nzV (v : SV) : Bool := match v with
  | .n .i64 a => !(Nat.beq a 0)
  | _ => false
theorem nzV_true {v : SV} (h : nzV v = true) (ρ : Nat → Nat) : ∃ j, v.inst ρ = .int .i64 j ∧ j ≠ 0 := by
  unfold nzV at h
  split at h
  · rename_i a
    refine ⟨_, rfl, fun e => ?_⟩
    have e : a = 0 := Int.ofNat.inj e
    subst e
    cases h
  · cases h
def htV (b : Bool) (v : SV) : Bool := match v with
  | .ag l => (match l[15]? with
    | some SV.t => b
    | some SV.f => !b
    | _ => false)
  | _ => false
theorem htV_true {b : Bool} {v : SV} (h : htV b v = true) (ρ : Nat → Nat) : hOf b (v.inst ρ) := by
  unfold htV at h
  split at h
  · rename_i l
    refine ⟨⟨instL ρ l⟩, rfl, ?_⟩
    have e : (⟨instL ρ l⟩ : Array Value)[15]? = (l[15]?).map (SV.inst ρ) := by
      rw [instL_map]
      show (List.toArray (l.map (SV.inst ρ)))[15]? = _
      rw [List.getElem?_toArray, List.getElem?_map]
    rw [e]
    split at h
    · rename_i h1; subst h; rw [h1]; rfl
    · rename_i h1
      cases b
      · rw [h1]; rfl
      · cases h
    · cases h
  · cases h
/-- A run of eight. -/
def runP (G : List Asm) (S S' : TBs) (X : Sg) : Bool := piece (EG5 G []) 27 [.p 0 0, .n .i64 8] S S' X nzV
theorem runP_call {ρ ρ' : Nat → Nat} {G : List Asm} {S S' : TBs} {X : Sg} (h : runP G S S' X = tt) (hG : ∀ a ∈ G, a.ok ρ) (hX : ∀ p ∈ X, ρ' p.1 = evW ρ p.2) {Y : Heap → Prop} (hY : Y (tbH S' ρ')) :
    ACall Tryz.prog T5 27 #[gP, .int .i64 8] (tbH S ρ) fun v H' => (∃ j, v = .int .i64 j ∧ j ≠ 0) ∧ Into Y H' :=
  (piece_call (EG5_ok hG (fun p hp => by cases hp)) h).mono fun v H' hR => by
    obtain ⟨⟨s, rfl, hs⟩, θ, h1, h2⟩ := hR
    exact ⟨nzV_true hs ρ, _, θ, hY, h2 ρ' hX, h1⟩
/-- A look at the state. -/
def lookP (b : Bool) (S : TBs) (X : Sg) : Bool := piece (EG5 [] []) 21 [.p 0 0] S S X (htV b)
theorem lookP_call {ρ : Nat → Nat} {b : Bool} {S : TBs} {X : Sg} (h : lookP b S X = tt) (hX : ∀ p ∈ X, ρ p.1 = evW ρ p.2) {Y : Heap → Prop} (hY : Y (tbH S ρ)) :
    ACall Tryz.prog T5 21 #[gP] (tbH S ρ) fun v H' => hOf b v ∧ Into Y H' :=
  (piece_call (EG5_ok (fun a ha => by cases ha) (fun p hp => by cases hp)) h).mono fun v H' hR => by
    obtain ⟨⟨s, rfl, hs⟩, θ, h1, h2⟩ := hR
    exact ⟨htV_true hs ρ, _, θ, hY, h2 ρ hX, h1⟩
/-- A job is done. -/
theorem job_ok [Bs] [Tz1] {X : Nat → Heap → Prop} (hF : Fam X) {ρ : Nat → Nat} {j : Job} {n : Nat} (hrest : j.rest = [.n .i64 n]) (hn : n < 9223372036854775807) {r : Nat} (hX : X r (tbH j.S (valS ρ j.X))) (hr : r ≤ n) (hE : ∀ S, X 0 S → S = tbH j.E ρ) (hl : ledB j.S = tt) (h0 : j.S.length ≤ 32767) (h1 : ∃ tb r, j.S = some tb :: r) (hs : simB j.E = tt) : JobOk Tryz.prog 34 ρ j where
  sem := by
    rw [hrest]
    intro m w args' hR ha
    refine (until_sem hF (n := (n : Int)) (by omega) hX (by omega) m w args' hR ha).mono fun e w' hp => ?_
    obtain ⟨h1, m1, S1, h2, h3⟩ := hp
    exact ⟨h1, m1, S1, hE S1 h2, h3⟩
  led := ledB_true hl h0 _
  wr0 := wr0_of h1 _
  sim := simB_true hs ρ
  cls := by rw [hrest]; intro x hx; simp [instL, SV.inst] at hx; subst hx; rfl
end
end Tp
end Go.Proofs.YthmcpmdohmfeiaaGreatDoor
