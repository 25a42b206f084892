/- Flags of numbers that are not known: hmach.reckon, arith.plain, arith.less, arith.more, told in short. -/
import Derived.Test.YthmcpmdohmfeiaaGreatDoorTaw
import Derived.Test.YthmcpmdohmfeiaaGreatDoorEa7
namespace Go.Proofs.YthmcpmdohmfeiaaGreatDoor
open Go Go.Ev
set_option linter.unusedVariables false
set_option linter.unusedSimpArgs false
set_option maxRecDepth 100000
namespace Tp
noncomputable section
/-! Calls from numbers to a number -/
def emH : Heap := ⟨full 15 fun _ => none, 0⟩
theorem em_full (ρ : Nat → Nat) : (full 15 fun b => (hAt b em).map (SOb.inst ρ)) = full 15 fun _ => none :=
  full_congr 15 _ _ fun b hb => by
    unfold hAt em
    rw [nAt_rep]; rfl
theorem em_any (ρ : Nat → Nat) : instH ρ em 0 = emH := by
  unfold instH emH
  rw [em_full ρ]
def DOk (f : FuncId) (l : List Value) (v : Value) : Prop := closed v = true ∧ l.all closed = true ∧ ∃ k H', evCall Tryz.prog T0 k f ⟨l⟩ emH = some (v, H')
open Classical in
def spD (f : FuncId) (l : List Value) (_ : Heap) : Option Value := if h : ∃ v, DOk f l v then some (Classical.choose h) else none
theorem spD_of {f : FuncId} {l : List Value} {H H' : Heap} {v : Value} {k : Nat} (hc : closed v = true) (hl : l.all closed = true) (h : evCall Tryz.prog T0 k f ⟨l⟩ emH = some (v, H')) : spD f l H = some v := by
  have hx : ∃ v, DOk f l v := ⟨v, hc, hl, k, H', h⟩
  unfold spD
  rw [dif_pos hx]
  obtain ⟨_, _, k', H2, h2⟩ := Classical.choose_spec hx
  rw [det h h2]
theorem spD_sound [Bs] (f : FuncId) (args : Array Value) (H : Heap) (v : Value) (h : spD f args.toList H = some v) : closed v = true ∧ ∀ (m : Map) (w : World) (args' : Array Value), HWf H → Rep Tryz.prog m H w → VRs m args.toList args'.toList → Calls Tryz.prog f args' w fun e w' => e = .returned v ∧ Quiet w w' := by
  unfold spD at h
  split at h
  · rename_i hx
    have hv := Classical.choose_spec hx
    cases h
    generalize Classical.choose hx = v at hv ⊢
    obtain ⟨hc, hl, k, H', hev⟩ := hv
    refine ⟨hc, fun m w args' hwf hr ha => ?_⟩
    have he : args' = args := by
      apply Array.ext'
      refine List.ext_getElem? fun i => ?_
      by_cases hi : i < args.size
      · obtain ⟨y, hy, hv⟩ := ha.2 i args[i] (by simp [hi])
        rw [hy, hv.closed_eq (List.all_eq_true.1 hl _ (by simp))]
        simp [hi]
      · rw [List.getElem?_eq_none (by have := ha.1; simp at this ⊢; omega), List.getElem?_eq_none (by simp; omega)]
    subst he
    have hget : ∀ b, emH.get b = none := fun b => by rw [← em_any (fun _ => 0)]; exact em_get _ b
    have hwf' : HWf emH := fun b hb => by rw [hget] at hb; simp at hb
    have hr' : Rep Tryz.prog (fun _ => none) emH w := ⟨⟨fun b L hb => (by cases hb), fun b L o hb => (by cases hb), fun b1 b2 L1 L2 hb => (by cases hb)⟩, ⟨hr.bas.toOnBs, fun b L hb => (by cases hb)⟩⟩
    have hev : evCall Tryz.prog T0 k f args' emH = some (v, H') := hev
    refine (evCall_sound progOk0 hev hwf' hr' (args' := args') ⟨rfl, fun i x hx => ⟨x, hx, VR.of_closed (List.all_eq_true.1 hl x (List.mem_of_getElem? hx))⟩⟩).mono fun e w' hp => ?_
    obtain ⟨v', m', rfl, hv', _, hf⟩ := hp
    rw [hv'.closed_eq hc]
    exact ⟨rfl, hf.os, hf.tape, hf.output, hf.size, fun c hc => hf.keep c hc (by rintro ⟨b, L, hb, _⟩; cases hb)⟩
  · cases h
/-! What is asked of numbers, bit by bit -/
inductive Cond where
  | eq (x : W)
  | ne (x : W)
  | lt (x y : W)
def Cond.asm : Cond → Bool → Asm
  | .eq x, b => ⟨0, x, [], b⟩
  | .ne x, b => ⟨0, x, [], b⟩
  | .lt x y, b => ⟨1, x, y, b⟩
def Cond.holds (ρ : Nat → Nat) : Cond → Bool
  | .eq x => (evW ρ x).beq 0
  | .ne x => (evW ρ x).beq 0
  | .lt x y => (evW ρ x).blt (evW ρ y)
theorem Cond.ok (ρ : Nat → Nat) (c : Cond) : (c.asm (c.holds ρ)).ok ρ := by cases c <;> rfl
/-- The bit, by whether it holds. -/
def Cond.bit : Cond → Bool → Nat
  | .ne _, b => bif b then 0 else 1
  | _, b => bif b then 1 else 0
def Cond.seg : Cond → Seg
  | .eq x => .g .sub .u64 x [.k 1 1] 63 1
  | .ne x => .g .sub .u64 [] x 63 1
  | .lt x y => .g .sub .u64 x y 63 1
def big : Nat := 9223372036854775808
def Cond.fits : Cond → Bool
  | .eq x => Nat.blt (hiW x) big
  | .ne x => Nat.blt (hiW x) big
  | .lt x y => Nat.blt (hiW x) big && Nat.blt (hiW y) big
theorem sub_top (a b : Nat) (ha : a < big) (hb : b < big) : (gZ .sub .u64 a b).toNat / 2 ^ 63 % 2 ^ 1 = if a < b then 1 else 0 := by
  unfold big at ha hb
  have e : gZ .sub .u64 a b = ((a : Int) - b) % 18446744073709551616 := by
    unfold gZ
    simp only [isShift, cond_false, ibin]
    simp [IntKind.wrap, IntKind.signed, IntKind.bits]
  rw [e]
  have e63 : (2 : Nat) ^ 63 = 9223372036854775808 := rfl
  rw [e63]
  split <;> omega
theorem Cond.seg_val (ρ : Nat → Nat) {c : Cond} (h : c.fits = true) : c.seg.val ρ = c.bit (c.holds ρ) := by
  cases c with
  | eq x =>
    have hx : evW ρ x < big := Nat.lt_of_le_of_lt (boundsW ρ x).2 (Nat.le_of_ble_eq_true h)
    have h1 : evW ρ [.k 1 1] = 1 := rfl
    show (gZ .sub .u64 (evW ρ x) (evW ρ [.k 1 1])).toNat / 2 ^ 63 % 2 ^ 1 = bif (evW ρ x).beq 0 then 1 else 0
    rw [h1, sub_top _ _ hx (by unfold big; omega)]
    cases hb : (evW ρ x).beq 0
    · have := Nat.ne_of_beq_eq_false hb
      rw [if_neg (by omega)]; rfl
    · have := Nat.eq_of_beq_eq_true hb
      rw [if_pos (by omega)]; rfl
  | ne x =>
    have hx : evW ρ x < big := Nat.lt_of_le_of_lt (boundsW ρ x).2 (Nat.le_of_ble_eq_true h)
    show (gZ .sub .u64 (evW ρ []) (evW ρ x)).toNat / 2 ^ 63 % 2 ^ 1 = bif (evW ρ x).beq 0 then 0 else 1
    have h0 : evW ρ [] = 0 := rfl
    rw [h0, sub_top _ _ (by unfold big; omega) hx]
    cases hb : (evW ρ x).beq 0
    · have := Nat.ne_of_beq_eq_false hb
      rw [if_pos (by omega)]; rfl
    · have := Nat.eq_of_beq_eq_true hb
      rw [if_neg (by omega)]; rfl
  | lt x y =>
    unfold Cond.fits at h
    simp only [Bool.and_eq_true] at h
    have hx : evW ρ x < big := Nat.lt_of_le_of_lt (boundsW ρ x).2 (Nat.le_of_ble_eq_true h.1)
    have hy : evW ρ y < big := Nat.lt_of_le_of_lt (boundsW ρ y).2 (Nat.le_of_ble_eq_true h.2)
    show (gZ .sub .u64 (evW ρ x) (evW ρ y)).toNat / 2 ^ 63 % 2 ^ 1 = bif (evW ρ x).blt (evW ρ y) then 1 else 0
    rw [sub_top _ _ hx hy]
    cases hb : (evW ρ x).blt (evW ρ y)
    · have : ¬ evW ρ x < evW ρ y := fun q => by rw [show Nat.blt (evW ρ x) (evW ρ y) = true from Nat.ble_eq_true_of_le q] at hb; cases hb
      rw [if_neg this]; rfl
    · have : evW ρ x < evW ρ y := Nat.le_of_ble_eq_true hb
      rw [if_pos this]; rfl
def dec (G : List Asm) (c : Cond) : Option Bool := match c with
  | .eq x => eqW G x []
  | .ne x => eqW G x []
  | .lt x y => ltW G x y
theorem beq0 (a : Nat) : a.beq 0 = decide (a = 0) := beq_dec a 0
theorem dec_ok {ρ : Nat → Nat} {G : List Asm} (hG : ∀ a ∈ G, a.ok ρ) {c : Cond} {b : Bool} (h : dec G c = some b) : c.holds ρ = b := by
  cases c with
  | eq x =>
    have := eqW_spec hG h
    rw [← this]; exact beq0 _
  | ne x =>
    have := eqW_spec hG h
    rw [← this]; exact beq0 _
  | lt x y =>
    have := ltW_spec hG h
    rw [← this]; exact blt_dec _ _
/-- What the bits come to. -/
def sumB (ρ : Nat → Nat) : List Cond → Nat
  | [] => 0
  | c :: r => c.bit (c.holds ρ) + 2 * sumB ρ r
/-- A function on numbers, run under each that may hold. -/
def spK (f : FuncId) (args : List SV) (k : IntKind) (l : List Cond) : List Asm → Nat → Nat → Bool := List.rec (motive := fun _ => List Asm → Nat → Nat → Bool)
  (fun G _ a => callN (EG G) 40 f args em 0 fun v _ _ => numEq (.n k a) v)
  (fun c _ ih G p a => Option.rec (motive := fun _ => Bool) (ifK (ih (c.asm true :: G) (p * 2) (a + p * c.bit true)) (ih (c.asm false :: G) (p * 2) (a + p * c.bit false)) false) (fun b => ih G (p * 2) (a + p * c.bit b)) (dec G c)) l
theorem spK_ok {ρ : Nat → Nat} {f : FuncId} {args : List SV} {k : IntKind} : ∀ {l : List Cond} {G : List Asm} {p a : Nat}, spK f args k l G p a = true → (∀ x ∈ G, x.ok ρ) → ∃ q H', evCall Tryz.prog T0 q f ⟨instL ρ args⟩ emH = some (.int k (.ofNat (a + p * sumB ρ l)), H') := by
  intro l
  induction l with
  | nil =>
    intro G p a h hG
    have ha := callN_ok (EG_ok hG) 40 f args em 0 (fun v _ _ => numEq (.n k a) v) (fun v _ => v = .int k (.ofNat a)) h fun v t' m' hk => by
      rw [← numEq_true hk]; rfl
    unfold ACall at ha
    obtain ⟨q, v, H', h1, rfl⟩ := ha
    rw [em_any] at h1
    exact ⟨q, H', h1⟩
  | cons c l ih =>
    intro G p a h hG
    have key : ∀ (b : Bool) (G' : List Asm), c.holds ρ = b → spK f args k l G' (p * 2) (a + p * c.bit b) = true → (∀ x ∈ G', x.ok ρ) → ∃ q H', evCall Tryz.prog T0 q f ⟨instL ρ args⟩ emH = some (.int k (.ofNat (a + p * sumB ρ (c :: l))), H') := fun b G' hb h' hG' => by
      obtain ⟨q, H', h1⟩ := ih h' hG'
      refine ⟨q, H', ?_⟩
      rw [h1]
      congr 4
      show a + p * c.bit b + p * 2 * sumB ρ l = a + p * (c.bit (c.holds ρ) + 2 * sumB ρ l)
      rw [hb, Nat.mul_add, Nat.mul_assoc, Nat.add_assoc]
    have h : (Option.rec (motive := fun _ => Bool) (ifK (spK f args k l (c.asm true :: G) (p * 2) (a + p * c.bit true)) (spK f args k l (c.asm false :: G) (p * 2) (a + p * c.bit false)) false) (fun b => spK f args k l G (p * 2) (a + p * c.bit b)) (dec G c)) = true := h
    cases hd : dec G c with
    | some b =>
      rw [hd] at h
      exact key b G (dec_ok hG hd) h hG
    | none =>
      rw [hd] at h
      obtain ⟨h1, h2⟩ := ifF_true h
      have hc := c.ok ρ
      cases hb : c.holds ρ
      · rw [hb] at hc
        exact key false _ hb h2 fun x hx => by
          rcases List.mem_cons.1 hx with rfl | hx
          · exact hc
          · exact hG x hx
      · rw [hb] at hc
        exact key true _ hb h1 fun x hx => by
          rcases List.mem_cons.1 hx with rfl | hx
          · exact hc
          · exact hG x hx
/-- The bits as a word. -/
def bitW (G : List Asm) : List Cond → W
  | [] => []
  | c :: r => ncons (match dec G c with | some b => .k (c.bit b) 1 | none => c.seg) (bitW G r)
def fitB (G : List Asm) (l : List Cond) : Bool := l.all fun c => match dec G c with | some _ => true | none => c.fits
theorem bit_lt (c : Cond) (b : Bool) : c.bit b < 2 := by cases c <;> cases b <;> simp [Cond.bit]
theorem bitW_ev {ρ : Nat → Nat} {G : List Asm} (hG : ∀ a ∈ G, a.ok ρ) : ∀ {l : List Cond}, fitB G l = true → evW ρ (bitW G l) = sumB ρ l := by
  intro l
  induction l with
  | nil => intro _; rfl
  | cons c l ih =>
    intro h
    unfold fitB at h
    simp only [List.all_cons, Bool.and_eq_true] at h
    have h2 := ih h.2
    have h1 := h.1
    show evW ρ (ncons _ (bitW G l)) = c.bit (c.holds ρ) + 2 * sumB ρ l
    rw [ncons_ev, h2]
    cases hd : dec G c with
    | some b =>
      have := dec_ok hG hd
      rw [this]
      show c.bit b % 2 ^ 1 + 2 ^ 1 * _ = _
      rw [Nat.mod_eq_of_lt (bit_lt c b)]
    | none =>
      rw [hd] at h1
      show c.seg.val ρ + 2 ^ c.seg.w * _ = _
      rw [c.seg_val ρ h1]
      cases c <;> rfl
def numsB (l : List SV) : Bool := l.all isNumW
theorem numsB_closed {l : List SV} (h : numsB l = true) (ρ : Nat → Nat) : (instL ρ l).all closed = true := by
  rw [instL_map, List.all_eq_true]
  intro x hx
  obtain ⟨v, hv, rfl⟩ := List.mem_map.1 hx
  exact plain_closed (isNumW_inst (List.all_eq_true.1 h v hv) ρ)
def bitsK (k : IntKind) (f : FuncId) (args : List SV) (l : List Cond) (G : List Asm) (t : HT) (m : Nat) (K : KV) : Bool :=
  ifK (numsB args) (ifK (fitB G l) (ifK (spK f args k l G 1 0) (K (mkI k (bitW G l)) t m) false) false) false
theorem bitsK_ok {ρ : Nat → Nat} {T : Tab} {f : FuncId} (ho : ∀ f l, T.orc f l = none) (hf : T.fn f = none) (hm : ∀ l H, T.mor f l H = same (spD f) l H) {k : IntKind} {args : List SV} {l : List Cond} {G : List Asm} (hG : ∀ a ∈ G, a.ok ρ) {t : HT} {m : Nat} {K : KV} {R : Value → Heap → Prop} (h : bitsK k f args l G t m K = true) (hR : ∀ v t' m', K v t' m' = true → R (v.inst ρ) (instH ρ t' m')) : ACall Tryz.prog T f ⟨instL ρ args⟩ (instH ρ t m) R := by
  obtain ⟨h1, h2⟩ := ifF_true h
  obtain ⟨h3, h4⟩ := ifF_true h2
  obtain ⟨h5, h6⟩ := ifF_true h4
  obtain ⟨q, H', h7⟩ := spK_ok h5 hG
  have e : (mkI k (bitW G l)).inst ρ = .int k (.ofNat (0 + 1 * sumB ρ l)) := by rw [mkI_inst, bitW_ev hG h3, Nat.one_mul, Nat.zero_add]
  refine acall_mor (v := .int k (.ofNat (0 + 1 * sumB ρ l))) (ho _ _) hf ((hm _ _).trans (same_of (spD_of rfl (numsB_closed h1 ρ) h7))) ?_
  rw [← e]
  exact hR _ _ _ h6
/-- What is known is run. -/
def thruK (f : FuncId) (args : List SV) (G : List Asm) (t : HT) (m : Nat) (K : KV) : Bool := ifK (numsB args) (callN (EG G) 40 f args em 0 fun v _ _ => ifK (isNumW v) (K v t m) false) false
theorem thruK_ok {ρ : Nat → Nat} {T : Tab} {f : FuncId} (ho : ∀ f l, T.orc f l = none) (hf : T.fn f = none) (hm : ∀ l H, T.mor f l H = same (spD f) l H) {args : List SV} {G : List Asm} (hG : ∀ a ∈ G, a.ok ρ) {t : HT} {m : Nat} {K : KV} {R : Value → Heap → Prop} (h : thruK f args G t m K = true) (hR : ∀ v t' m', K v t' m' = true → R (v.inst ρ) (instH ρ t' m')) : ACall Tryz.prog T f ⟨instL ρ args⟩ (instH ρ t m) R := by
  obtain ⟨h1, h2⟩ := ifF_true h
  have ha := callN_ok (EG_ok hG) 40 f args em 0 _ (fun v _ => ∃ s : SV, v = s.inst ρ ∧ isNumW s = true ∧ K s t m = true) h2 fun v t' m' hk => by
    obtain ⟨h3, h4⟩ := ifF_true hk
    exact ⟨v, rfl, h3, h4⟩
  unfold ACall at ha
  obtain ⟨q, v, H', h3, s, rfl, h4, h5⟩ := ha
  rw [em_any] at h3
  exact acall_mor (ho _ _) hf ((hm _ _).trans (same_of (spD_of (plain_closed (isNumW_inst h4 ρ)) (numsB_closed h1 ρ) h3))) (hR _ _ _ h5)
/-! The four -/
def opW (G : List Asm) (op : BinOp) (x y : W) : W := match sbin G op .u32 x y with
  | some s => (match wOf s with | some (_, w) => w | none => [])
  | none => []
def topW : W := [.k 2147483648 32]
def plK (G : List Asm) (args : List SV) (t : HT) (m : Nat) (K : KV) : Bool := match args with
  | [r] => bnd (wOf r) fun x => bitsK .u32 232 args [.eq x.2, .ne (opW G .and x.2 topW)] G t m K
  | _ => false
def lsK (G : List Asm) (args : List SV) (t : HT) (m : Nat) (K : KV) : Bool := match args with
  | [.n _ _, .n _ _] => thruK 230 args G t m K
  | [a, b] => bnd (wOf a) fun x => bnd (wOf b) fun y => bitsK .u32 230 args [.eq (opW G .sub x.2 y.2), .ne (opW G .and (opW G .sub x.2 y.2) topW), .lt x.2 y.2, .ne (opW G .and (opW G .and (opW G .xor x.2 y.2) (opW G .xor x.2 (opW G .sub x.2 y.2))) topW)] G t m K
  | _ => false
def moK (G : List Asm) (args : List SV) (t : HT) (m : Nat) (K : KV) : Bool := match args with
  | [.n _ _, .n _ _] => thruK 229 args G t m K
  | [a, b] => bnd (wOf a) fun x => bnd (wOf b) fun y => bitsK .u32 229 args [.eq (opW G .add x.2 y.2), .ne (opW G .and (opW G .add x.2 y.2) topW), .lt (opW G .add x.2 y.2) x.2, .ne (opW G .and (opW G .and (opW G .xor x.2 (opW G .add x.2 y.2)) (opW G .xor y.2 (opW G .add x.2 y.2))) topW)] G t m K
  | _ => false
def rkK (G : List Asm) (args : List SV) (t : HT) (m : Nat) (K : KV) : Bool := match args with
  | [op, a, b] => (match op with
    | .n .i64 12 => bnd (wOf a) fun x => bnd (wOf b) fun y => bitsK .u64 226 args [.lt x.2 y.2] G t m K
    | .n .i64 13 => bnd (wOf a) fun x => (match b with
      | .n .u64 0 => bitsK .u64 226 args [.eq x.2] G t m K
      | _ => thruK 226 args G t m K)
    | _ => thruK 226 args G t m K)
  | _ => false
def MacOk (ρ : Nat → Nat) (T : Tab) (f : FuncId) (h : List SV → HT → Nat → KV → Bool) : Prop := ∀ (args : List SV) (t : HT) (m : Nat) (K : KV) (R : Value → Heap → Prop), h args t m K = true → (∀ v t' m', K v t' m' = true → R (v.inst ρ) (instH ρ t' m')) → ACall Tryz.prog T f ⟨instL ρ args⟩ (instH ρ t m) R
section
variable {ρ : Nat → Nat} {T : Tab} {G : List Asm}
theorem plK_ok (ho : ∀ f l, T.orc f l = none) (hf : T.fn 232 = none) (hm : ∀ l H, T.mor 232 l H = same (spD 232) l H) (hG : ∀ a ∈ G, a.ok ρ) : MacOk ρ T 232 (plK G) := by
  intro args t m K R h hR
  unfold plK at h
  split at h
  · obtain ⟨x, _, h⟩ := bnd_true h
    exact bitsK_ok ho hf hm hG h hR
  · cases h
theorem lsK_ok (ho : ∀ f l, T.orc f l = none) (hf : T.fn 230 = none) (hm : ∀ l H, T.mor 230 l H = same (spD 230) l H) (hG : ∀ a ∈ G, a.ok ρ) : MacOk ρ T 230 (lsK G) := by
  intro args t m K R h hR
  unfold lsK at h
  split at h
  · exact thruK_ok ho hf hm hG h hR
  · obtain ⟨x, _, h⟩ := bnd_true h
    obtain ⟨y, _, h⟩ := bnd_true h
    exact bitsK_ok ho hf hm hG h hR
  · cases h
theorem moK_ok (ho : ∀ f l, T.orc f l = none) (hf : T.fn 229 = none) (hm : ∀ l H, T.mor 229 l H = same (spD 229) l H) (hG : ∀ a ∈ G, a.ok ρ) : MacOk ρ T 229 (moK G) := by
  intro args t m K R h hR
  unfold moK at h
  split at h
  · exact thruK_ok ho hf hm hG h hR
  · obtain ⟨x, _, h⟩ := bnd_true h
    obtain ⟨y, _, h⟩ := bnd_true h
    exact bitsK_ok ho hf hm hG h hR
  · cases h
theorem rkK_ok (ho : ∀ f l, T.orc f l = none) (hf : T.fn 226 = none) (hm : ∀ l H, T.mor 226 l H = same (spD 226) l H) (hG : ∀ a ∈ G, a.ok ρ) : MacOk ρ T 226 (rkK G) := by
  intro args t m K R h hR
  unfold rkK at h
  split at h
  · split at h
    · obtain ⟨x, _, h⟩ := bnd_true h
      obtain ⟨y, _, h⟩ := bnd_true h
      exact bitsK_ok ho hf hm hG h hR
    · obtain ⟨x, _, h⟩ := bnd_true h
      split at h
      · exact bitsK_ok ho hf hm hG h hR
      · exact thruK_ok ho hf hm hG h hR
    · exact thruK_ok ho hf hm hG h hR
  · cases h
end
/-- A call on numbers is known besides. -/
def Tab.withD (T : Tab) (f0 : FuncId) : Tab := { T with fn := fun f => bif Nat.beq f f0 then none else T.fn f, mor := fun f l H => bif Nat.beq f f0 then same (spD f0) l H else T.mor f l H, has := fun f => bif Nat.beq f f0 then true else T.has f }
theorem progOkD [Bs] {T : Tab} (h : ProgOk Tryz.prog T) (f : FuncId) (hh : (T.fn f).isSome = true) : ProgOk Tryz.prog (Tab.withD T f) := ProgOk.withMor h f hh (spD f) (spD_sound f)
def T5 : Tab := Tab.withD (Tab.withD (Tab.withD (Tab.withD T2a 226) 229) 230) 232
theorem progOk5 [Bs] [Tz1] : ProgOk Tryz.prog T5 := progOkD (progOkD (progOkD (progOkD progOk2a 226 (by kernel_rfl)) 229 (by kernel_rfl)) 230 (by kernel_rfl)) 232 (by kernel_rfl)
/-- The calls that are told in short. -/
def mac5 (G : List Asm) (WL : WLs) (g : FuncId) : Option (List SV → HT → Nat → KV → Bool) :=
  bif Nat.beq g 144 then some (chk G) else bif Nat.beq g 15 then some (wit WL) else bif Nat.beq g 127 then some tzK else bif Nat.beq g 22 then some awK else
  bif Nat.beq g 226 then some (rkK G) else bif Nat.beq g 229 then some (moK G) else bif Nat.beq g 230 then some (lsK G) else bif Nat.beq g 232 then some (plK G) else none
def EG5 (G : List Asm) (WL : WLs) : Env := ⟨Tryz.prog, T5, ztT, G, mac5 G WL⟩
/-- Tables in which these calls are known. -/
structure Mac5 (T : Tab) : Prop where
  orc : ∀ f l, T.orc f l = none
  f144 : T.fn 144 = none ∧ ∀ l H, T.mor 144 l H = same sp144 l H
  f15 : T.fn 15 = none ∧ ∀ l H, T.mor 15 l H = same sp15 l H
  f127 : T.fn 127 = none ∧ ∀ l H, T.mor 127 l H = same sp127 l H
  f22 : T.fn 22 = none ∧ ∀ l H, T.mor 22 l H = same sp22 l H
  f226 : T.fn 226 = none ∧ ∀ l H, T.mor 226 l H = same (spD 226) l H
  f229 : T.fn 229 = none ∧ ∀ l H, T.mor 229 l H = same (spD 229) l H
  f230 : T.fn 230 = none ∧ ∀ l H, T.mor 230 l H = same (spD 230) l H
  f232 : T.fn 232 = none ∧ ∀ l H, T.mor 232 l H = same (spD 232) l H
theorem mac5_ok {ρ : Nat → Nat} {T : Tab} (hT : Mac5 T) {G : List Asm} {WL : WLs} (hG : ∀ a ∈ G, a.ok ρ) (hW : WOk ρ WL) {g : FuncId} {h : List SV → HT → Nat → KV → Bool} (hm : mac5 G WL g = some h) : MacOk ρ T g h := by
  unfold mac5 at hm
  cases h1 : Nat.beq g 144 <;> rw [h1] at hm
  case true => cases hm; obtain rfl := Nat.eq_of_beq_eq_true h1; exact fun args t m K R hk hR => chk_ok hT.orc hT.f144.1 hT.f144.2 hG args t m K R hk hR
  cases h2 : Nat.beq g 15 <;> rw [h2] at hm
  case true => cases hm; obtain rfl := Nat.eq_of_beq_eq_true h2; exact fun args t m K R hk hR => wit_ok hT.orc hT.f15.1 hT.f15.2 hW args t m K R hk hR
  cases h3 : Nat.beq g 127 <;> rw [h3] at hm
  case true => cases hm; obtain rfl := Nat.eq_of_beq_eq_true h3; exact fun args t m K R hk hR => tzK_ok hT.orc hT.f127.1 hT.f127.2 args t m K R hk hR
  cases h4 : Nat.beq g 22 <;> rw [h4] at hm
  case true => cases hm; obtain rfl := Nat.eq_of_beq_eq_true h4; exact fun args t m K R hk hR => awK_ok hT.orc hT.f22.1 hT.f22.2 args t m K R hk hR
  cases h5 : Nat.beq g 226 <;> rw [h5] at hm
  case true => cases hm; obtain rfl := Nat.eq_of_beq_eq_true h5; exact rkK_ok hT.orc hT.f226.1 hT.f226.2 hG
  cases h6 : Nat.beq g 229 <;> rw [h6] at hm
  case true => cases hm; obtain rfl := Nat.eq_of_beq_eq_true h6; exact moK_ok hT.orc hT.f229.1 hT.f229.2 hG
  cases h7 : Nat.beq g 230 <;> rw [h7] at hm
  case true => cases hm; obtain rfl := Nat.eq_of_beq_eq_true h7; exact lsK_ok hT.orc hT.f230.1 hT.f230.2 hG
  cases h8 : Nat.beq g 232 <;> rw [h8] at hm
  case true => cases hm; obtain rfl := Nat.eq_of_beq_eq_true h8; exact plK_ok hT.orc hT.f232.1 hT.f232.2 hG
  cases hm
theorem mac5_T5 : Mac5 T5 := ⟨fun _ _ => rfl, ⟨rfl, fun _ _ => rfl⟩, ⟨rfl, fun _ _ => rfl⟩, ⟨rfl, fun _ _ => rfl⟩, ⟨rfl, fun _ _ => rfl⟩, ⟨rfl, fun _ _ => rfl⟩, ⟨rfl, fun _ _ => rfl⟩, ⟨rfl, fun _ _ => rfl⟩, ⟨rfl, fun _ _ => rfl⟩⟩
theorem EG5_ok {ρ : Nat → Nat} {G : List Asm} {WL : WLs} (hG : ∀ a ∈ G, a.ok ρ) (hW : WOk ρ WL) : EnvOk ρ (EG5 G WL) where
  zt := ztT_ok
  G := hG
  orc := fun _ _ => rfl
  mac := fun g h hm => mac5_ok mac5_T5 hG hW hm
end
end Tp
end Go.Proofs.YthmcpmdohmfeiaaGreatDoor
