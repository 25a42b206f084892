/- The lowest bit of 1 (bits.TrailingZeros32), by the table that start-up code lays; the tables with it. -/
import Derived.Test.YthmcpmdohmfeiaaGreatDoorTc
import Derived.Lib.LaidTab
namespace Go.Proofs.YthmcpmdohmfeiaaGreatDoor
open Go Go.Ev Go.ChangeShapes Go.WideShapes Go.ChangeAt Go.RowKit
set_option linter.unusedVariables false
set_option linter.unusedSimpArgs false
set_option maxRecDepth 100000
namespace Tp
def deB : List Int := [0, 1, 28, 2, 29, 14, 24, 3, 30, 22, 20, 15, 25, 17, 4, 8, 31, 27, 13, 23, 21, 19, 16, 7, 26, 12, 18, 6, 11, 5, 10, 9]
theorem gTab : Tryz.prog.globalNamed "math/bits.deBruijn32tab" = some 0 := by kernel_rfl
theorem tab_of_laid {W : World} (h : laidMetH Tryz.prog laid1 W) : Lib.TabIs Tryz.prog W "math/bits.deBruijn32tab" .u8 deB := by
  rw [MakeChecks.laidMetH_plain _ _ _ (by kernel_rfl)] at h
  exact Lib.tabIs_of_head gTab (by kernel_rfl) Tryz.underlying258 Tryz.underlying5 (by kernel_rfl) (by kernel_rfl) (show laidMet Tryz.prog (("math/bits.deBruijn32tab", Lib.tabData .u8 deB) :: []) W from h)
/-- The table's first cell is where it was laid. -/
class Tz1 [Bs] : Prop where
  tab : ∀ w, OnBs w → w.cell? ⟨0, 0, none⟩ = some (.int .u8 0)
theorem tz_of {W : World} (h : laidMetH Tryz.prog laid1 W) : @Tz1 ⟨W, W.heap.size⟩ := by
  have h := tab_of_laid h
  refine @Tz1.mk ⟨W, W.heap.size⟩ fun w hw => ?_
  unfold Lib.TabIs World.var? at h
  rw [gTab] at h
  have h0 : (0 : Nat) < W.heap.size := by
    rcases Nat.lt_or_ge 0 W.heap.size with h' | h'
    · exact h'
    · simp only [Option.bind_some] at h
      rw [Array.getElem?_eq_none h'] at h; cases h
  have hl := @OnBs.low ⟨W, W.heap.size⟩ w hw 0 h0
  simp only [Option.bind_some] at h
  rw [← show w.heap[0]? = W.heap[0]? from hl] at h
  cases hc : w.heap[0]? with
  | none => rw [hc] at h; cases h
  | some o =>
    rw [hc] at h
    cases o with
    | cells cs e fz =>
      simp only [Option.some.injEq] at h
      unfold World.cell?
      simp only [hc, h]
      rfl
    | _ => cases h
theorem tz1_calls (w : World) (hcell : w.cell? ⟨0, 0, none⟩ = some (.int .u8 0)) : Calls Tryz.prog 127 #[.int .u32 1] w fun e w' => e = .returned (.int .i64 0) ∧ w = w' := by
  have key : bits BinOp.and IntKind.u32 1 4294967295 = 1 := by decide
  go_enter Tryz.func127, Tryz.ntmps127
  go_wp2_with (simp only [key])
  go_ret
  exact ⟨rfl, rfl⟩
noncomputable section
open Classical in
def sp127 (l : List Value) (_ : Heap) : Option Value := if l = [.int .u32 1] then some (.int .i64 0) else none
theorem sp127_sound [Bs] [Tz1] (args : Array Value) (H : Heap) (v : Value) (h : sp127 args.toList H = some v) : closed v = true ∧ ∀ (m : Map) (w : World) (args' : Array Value), HWf H → Rep Tryz.prog m H w → VRs m args.toList args'.toList → Calls Tryz.prog 127 args' w fun e w' => e = .returned v ∧ Quiet w w' := by
  unfold sp127 at h
  split at h
  · rename_i hl
    cases h
    refine ⟨rfl, fun m w args' _ hr ha => ?_⟩
    have hy : args' = #[.int .u32 1] := by
      rw [hl] at ha
      obtain ⟨hlen, hat⟩ := ha
      obtain ⟨y0, e0, v0⟩ := hat 0 _ rfl
      rw [v0.plain_eq rfl] at e0
      apply Array.ext'
      apply List.ext_getElem?
      intro i
      match i with
      | 0 => exact e0
      | i + 1 =>
        have h3 : args'.toList.length = 1 := by rw [← hlen]; rfl
        rw [List.getElem?_eq_none (by omega), List.getElem?_eq_none (by simp)]
    subst hy
    exact (tz1_calls w (Tz1.tab w hr.bas.toOnBs)).mono fun e w' he => ⟨he.1, by rw [← he.2]; exact Quiet.refl _⟩
  · cases h
/-- The tables: the lowest bit of 1 is known besides. -/
def T2 : Tab := { T1 with fn := fun f => bif Nat.beq f 127 then none else T1.fn f, mor := fun f l H => bif Nat.beq f 127 then same sp127 l H else T1.mor f l H, has := fun f => bif Nat.beq f 127 then true else T1.has f }
theorem progOk2 [Bs] [Tz1] : ProgOk Tryz.prog T2 := ProgOk.withMor progOk1 127 (by kernel_rfl) sp127 sp127_sound
def tzK (args : List SV) (t : HT) (m : Nat) (K : KV) : Bool := match args with
  | [.n .u32 a] => ifK (Nat.beq a 1) (K (.n .i64 0) t m) false
  | _ => false
theorem tzK_ok {ρ : Nat → Nat} {T : Tab} (ho : ∀ f l, T.orc f l = none) (hf : T.fn 127 = none) (hm : ∀ l H, T.mor 127 l H = same sp127 l H) (args : List SV) (t : HT) (m : Nat) (K : KV) (R : Value → Heap → Prop) (h : tzK args t m K = true) (hR : ∀ v t' m', K v t' m' = true → R (v.inst ρ) (instH ρ t' m')) : ACall Tryz.prog T 127 ⟨instL ρ args⟩ (instH ρ t m) R := by
  unfold tzK at h
  split at h
  · rename_i a
    obtain ⟨h1, h2⟩ := ifF_true h
    obtain rfl := Nat.eq_of_beq_eq_true h1
    refine acall_mor (v := .int .i64 0) (ho _ _) hf ((hm _ _).trans (same_of ?_)) (hR (.n .i64 0) t m h2)
    unfold sp127
    exact if_pos rfl
  · cases h
/-- The program; some calls are told in short. -/
def EG2 (G : List Asm) (WL : WLs) : Env := ⟨Tryz.prog, T2, ztT, G, fun g => Bool.rec (Bool.rec (Bool.rec none (some tzK) (Nat.beq g 127)) (some (wit WL)) (Nat.beq g 15)) (some (chk G)) (Nat.beq g 144)⟩
theorem EG2_ok {ρ : Nat → Nat} {G : List Asm} {WL : WLs} (hG : ∀ a ∈ G, a.ok ρ) (hW : WOk ρ WL) : EnvOk ρ (EG2 G WL) where
  zt := ztT_ok
  G := hG
  orc := fun _ _ => rfl
  mac := fun g h hm => by
    have hm : (Bool.rec (Bool.rec (Bool.rec none (some tzK) (Nat.beq g 127)) (some (wit WL)) (Nat.beq g 15)) (some (chk G)) (Nat.beq g 144) : Option (List SV → HT → Nat → KV → Bool)) = some h := hm
    cases hb : Nat.beq g 144
    · rw [hb] at hm
      cases hc : Nat.beq g 15
      · rw [hc] at hm
        cases hd : Nat.beq g 127
        · rw [hd] at hm; cases hm
        · rw [hd] at hm; cases hm
          obtain rfl := Nat.eq_of_beq_eq_true hd
          exact fun args t m K R hk hR => tzK_ok (fun _ _ => rfl) rfl (fun _ _ => rfl) args t m K R hk hR
      · rw [hc] at hm; cases hm
        obtain rfl := Nat.eq_of_beq_eq_true hc
        exact fun args t m K R hk hR => wit_ok (fun _ _ => rfl) rfl (fun _ _ => rfl) hW args t m K R hk hR
    · rw [hb] at hm; cases hm
      obtain rfl := Nat.eq_of_beq_eq_true hb
      exact fun args t m K R hk hR => chk_ok (fun _ _ => rfl) rfl (fun _ _ => rfl) hG args t m K R hk hR
end
end Tp
end Go.Proofs.YthmcpmdohmfeiaaGreatDoor
