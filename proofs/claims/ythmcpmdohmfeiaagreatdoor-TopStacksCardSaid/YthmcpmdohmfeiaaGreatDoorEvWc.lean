/- Values that are not known whole, memory of sparse blocks; what the kernel reads and writes of them, in continuations. -/
import Derived.Test.YthmcpmdohmfeiaaGreatDoorEvWo
namespace Go.Ev
open Go
set_option linter.unusedVariables false
set_option linter.unusedSimpArgs false
/-- What a great row is made of where nothing was laid. -/
inductive Z0 where
  | i (k : IntKind)
  | b | p | s | m | f
def Z0.val : Z0 → Value
  | .i k => .int k (Int.ofNat 0)
  | .b => .bool false
  | .p => .pointer none
  | .s => .slice none 0 0
  | .m => .map none
  | .f => .nilFunc
def flatZ (zs : List (Nat × Z0)) : List Value := zs.flatMap fun p => List.replicate p.1 p.2.val
inductive SV where
  | n (k : IntKind) (a : Nat)
  | z (k : IntKind) (a : Nat)
  | w (k : IntKind) (x : W)
  | t | f
  | p (b o : Nat) | np
  | sl (b o l c : Nat) | ns
  | m (b : Nat) | nm | it (b : Nat)
  | fn (g : FuncId) (fs cs : List SV) | nf
  | st (l : List SV)
  | u
  | ag (l : List SV) | tu (l : List SV)
  | big (zs : List (Nat × Z0))
  | y (k : IntKind) (i : Nat)
/-- A number with a sign, told by one without. -/
def zz (n : Nat) : Int := bif (n % 2).beq 0 then Int.ofNat (n / 2) else Int.negSucc (n / 2)
theorem zz_of (a : Int) : ∃ n, zz n = a := by
  cases a with
  | ofNat a => exact ⟨2 * a, by unfold zz; rw [Nat.mul_mod_right, Nat.mul_div_cancel_left a (by omega)]; rfl⟩
  | negSucc a => exact ⟨2 * a + 1, by unfold zz; rw [show (2 * a + 1) % 2 = 1 by omega, show (2 * a + 1) / 2 = a by omega]; rfl⟩
section
variable (ρ : Nat → Nat)
def byteOf : SV → UInt8
  | .n _ a => UInt8.ofNat a
  | .w _ x => UInt8.ofNat (evW ρ x)
  | _ => 0
mutual
def SV.inst : SV → Value
  | .n k a => .int k (Int.ofNat a)
  | .z k a => .int k (Int.negSucc a)
  | .w k x => .int k (Int.ofNat (evW ρ x))
  | .t => .bool true
  | .f => .bool false
  | .p b o => .pointer (some ⟨b, o, none⟩)
  | .np => .pointer none
  | .sl b o l c => .slice (some ⟨b, o, none⟩) l c
  | .ns => .slice none 0 0
  | .m b => .map (some b)
  | .nm => .map none
  | .it b => .chan (some b)
  | .fn g fs cs => .func (.func g) ⟨instL fs⟩ ⟨instL cs⟩
  | .nf => .nilFunc
  | .st l => .string ⟨⟨l.map (byteOf ρ)⟩⟩
  | .u => undef
  | .ag l => .agg ⟨instL l⟩
  | .tu l => .tuple ⟨instL l⟩
  | .big zs => .agg ⟨flatZ zs⟩
  | .y k i => .int k (zz (ρ i))
def instL : List SV → List Value
  | [] => []
  | v :: l => v.inst :: instL l
end
theorem instL_map : ∀ l, instL ρ l = l.map (SV.inst ρ)
  | [] => rfl
  | v :: l => by rw [instL, instL_map l, List.map_cons]
end
def Z0.sv : Z0 → SV
  | .i k => .n k 0
  | .b => .f
  | .p => .np
  | .s => .ns
  | .m => .nm
  | .f => .nf
theorem Z0.sv_inst (ρ : Nat → Nat) (z : Z0) : z.sv.inst ρ = z.val := by cases z <;> rfl
def Z0.ps (zs : List (Nat × Z0)) : List (Nat × SV) := zs.map fun p => (p.1, p.2.sv)
/-! What a value is, by the kernel in one step -/
inductive Nn where
  | no
  | yes (k : IntKind) (a : Nat)
inductive Pp where
  | no
  | yes (b o : Nat)
inductive B4 where
  | no | t | f | u
noncomputable def asN (v : SV) : Nn := SV.rec (motive_1 := fun _ => Nn) (motive_2 := fun _ => Nn) (fun k a => .yes k a) (fun _ _ => .no) (fun _ _ => .no) .no .no (fun _ _ => .no) .no (fun _ _ _ _ => .no) .no (fun _ => .no) .no (fun _ => .no) (fun _ _ _ _ _ => .no) .no (fun _ _ => .no) .no (fun _ _ => .no) (fun _ _ => .no) (fun _ => .no) (fun _ _ => .no) .no (fun _ _ _ _ => .no) v
noncomputable def asP (v : SV) : Pp := SV.rec (motive_1 := fun _ => Pp) (motive_2 := fun _ => Pp) (fun _ _ => .no) (fun _ _ => .no) (fun _ _ => .no) .no .no (fun b o => .yes b o) .no (fun _ _ _ _ => .no) .no (fun _ => .no) .no (fun _ => .no) (fun _ _ _ _ _ => .no) .no (fun _ _ => .no) .no (fun _ _ => .no) (fun _ _ => .no) (fun _ => .no) (fun _ _ => .no) .no (fun _ _ _ _ => .no) v
noncomputable def asB (v : SV) : B4 := SV.rec (motive_1 := fun _ => B4) (motive_2 := fun _ => B4) (fun _ _ => .no) (fun _ _ => .no) (fun _ _ => .no) .t .f (fun _ _ => .no) .no (fun _ _ _ _ => .no) .no (fun _ => .no) .no (fun _ => .no) (fun _ _ _ _ _ => .no) .no (fun _ _ => .no) .u (fun _ _ => .no) (fun _ _ => .no) (fun _ => .no) (fun _ _ => .no) .no (fun _ _ _ _ => .no) v
/-- The parts of a struct, or of several answers. -/
noncomputable def asA (v : SV) : Option (List SV) := SV.rec (motive_1 := fun _ => Option (List SV)) (motive_2 := fun _ => Option (List SV)) (fun _ _ => none) (fun _ _ => none) (fun _ _ => none) none none (fun _ _ => none) none (fun _ _ _ _ => none) none (fun _ => none) none (fun _ => none) (fun _ _ _ _ _ => none) none (fun _ _ => none) none (fun l _ => some l) (fun _ _ => none) (fun _ => none) (fun _ _ => none) none (fun _ _ _ _ => none) v
noncomputable def asU (v : SV) : Option (List SV) := SV.rec (motive_1 := fun _ => Option (List SV)) (motive_2 := fun _ => Option (List SV)) (fun _ _ => none) (fun _ _ => none) (fun _ _ => none) none none (fun _ _ => none) none (fun _ _ _ _ => none) none (fun _ => none) none (fun _ => none) (fun _ _ _ _ _ => none) none (fun _ _ => none) none (fun _ _ => none) (fun l _ => some l) (fun _ => none) (fun _ _ => none) none (fun _ _ _ _ => none) v
noncomputable def isNc (v : SV) : Bool := SV.rec (motive_1 := fun _ => Bool) (motive_2 := fun _ => Bool) (fun _ _ => false) (fun _ _ => false) (fun _ _ => false) false false (fun _ _ => true) false (fun _ _ _ _ => false) false (fun _ => false) false (fun _ => false) (fun _ _ _ _ _ => true) false (fun _ _ => false) false (fun _ _ => false) (fun _ _ => false) (fun _ => false) (fun _ _ => false) false (fun _ _ _ _ => false) v
noncomputable def isOne (v : SV) : Bool := SV.rec (motive_1 := fun _ => Bool) (motive_2 := fun _ => Bool) (fun _ _ => true) (fun _ _ => true) (fun _ _ => true) true true (fun _ _ => true) true (fun _ _ _ _ => true) true (fun _ => true) true (fun _ => true) (fun _ _ _ _ _ => true) true (fun _ _ => true) false (fun _ _ => false) (fun _ _ => false) (fun _ => false) (fun _ _ => true) true (fun _ _ _ _ => true) v
inductive S4 where
  | no
  | ns
  | yes (b o l c : Nat)
noncomputable def asS (v : SV) : S4 := SV.rec (motive_1 := fun _ => S4) (motive_2 := fun _ => S4) (fun _ _ => .no) (fun _ _ => .no) (fun _ _ => .no) .no .no (fun _ _ => .no) .no (fun b o l c => .yes b o l c) .ns (fun _ => .no) .no (fun _ => .no) (fun _ _ _ _ _ => .no) .no (fun _ _ => .no) .no (fun _ _ => .no) (fun _ _ => .no) (fun _ => .no) (fun _ _ => .no) .no (fun _ _ _ _ => .no) v
theorem asS_yes {v : SV} {b o l c : Nat} (h : asS v = .yes b o l c) : v = .sl b o l c := by cases v <;> cases h <;> rfl
theorem asS_ns {v : SV} (h : asS v = .ns) : v = .ns := by cases v <;> cases h <;> rfl
theorem asN_yes {v : SV} {k : IntKind} {a : Nat} (h : asN v = .yes k a) : v = .n k a := by cases v <;> cases h <;> rfl
theorem asP_yes {v : SV} {b o : Nat} (h : asP v = .yes b o) : v = .p b o := by cases v <;> cases h <;> rfl
theorem asB_t {v : SV} (h : asB v = .t) : v = .t := by cases v <;> cases h <;> rfl
theorem asB_f {v : SV} (h : asB v = .f) : v = .f := by cases v <;> cases h <;> rfl
theorem asB_u {v : SV} (h : asB v = .u) : v = .u := by cases v <;> cases h <;> rfl
theorem asA_some {v : SV} {l : List SV} (h : asA v = some l) : v = .ag l := by cases v <;> cases h <;> rfl
theorem asU_some {v : SV} {l : List SV} (h : asU v = some l) : v = .tu l := by cases v <;> cases h <;> rfl
/-! Trees -/
inductive Pth where
  | z
  | l (p : Pth)
  | r (p : Pth)
noncomputable section
def pthF (f : Nat) : Nat → Pth := Nat.rec (motive := fun _ => Nat → Pth) (fun _ => .z) (fun _ ih n => Nat.rec (motive := fun _ => Pth) .z (fun k _ => Nat.rec (motive := fun _ => Pth) (.l (ih (Nat.div k 2))) (fun _ _ => .r (ih (Nat.div k 2))) (Nat.mod k 2)) n) f
/-- The way to a number. -/
def pth (n : Nat) : Pth := pthF (Nat.succ n) n
def bnd {α : Type} (r : Option α) (K : α → Bool) : Bool := Option.rec (motive := fun _ => Bool) false K r
theorem bnd_true {α : Type} {r : Option α} {K : α → Bool} (h : bnd r K = true) : ∃ a, r = some a ∧ K a = true := by
  cases r with
  | none => cases h
  | some a => exact ⟨a, rfl, h⟩
section
variable {α : Type}
def gO (p : Pth) : Tr α → Option α :=
  Pth.rec (motive := fun _ => Tr α → Option α) (fun t => Tr.rec (motive := fun _ => Option α) none (fun _ v _ _ _ => v) t) (fun _ ih t => Tr.rec (motive := fun _ => Option α) none (fun l _ _ _ _ => ih l) t) (fun _ ih t => Tr.rec (motive := fun _ => Option α) none (fun _ _ r _ _ => ih r) t) p
def gP (p : Pth) : Tr α → (α → Bool) → Bool :=
  Pth.rec (motive := fun _ => Tr α → (α → Bool) → Bool) (fun t K => Tr.rec (motive := fun _ => Bool) false (fun _ v _ _ _ => Option.rec (motive := fun _ => Bool) false K v) t) (fun _ ih t K => Tr.rec (motive := fun _ => Bool) false (fun l _ _ _ _ => ih l K) t) (fun _ ih t K => Tr.rec (motive := fun _ => Bool) false (fun _ _ r _ _ => ih r K) t) p
def pP (p : Pth) (v : Option α) : Tr α → (Tr α → Bool) → Bool :=
  Pth.rec (motive := fun _ => Tr α → (Tr α → Bool) → Bool) (fun t K => Tr.rec (motive := fun _ => Bool) (K (.nd .lf v .lf)) (fun l _ r _ _ => K (.nd l v r)) t)
   (fun _ ih t K => Tr.rec (motive := fun _ => Bool) (ih .lf fun l => K (.nd l none .lf)) (fun l x r _ _ => ih l fun l => K (.nd l x r)) t)
   (fun _ ih t K => Tr.rec (motive := fun _ => Bool) (ih .lf fun r => K (.nd .lf none r)) (fun l x r _ _ => ih r fun r => K (.nd l x r)) t) p
theorem pthF_z (f : Nat) : pthF (f + 1) 0 = .z := rfl
theorem pthF_s (f k : Nat) : pthF (f + 1) (k + 1) = bif (k % 2).beq 0 then .l (pthF f (k / 2)) else .r (pthF f (k / 2)) := by
  show (Nat.rec (motive := fun _ => Pth) (.l (pthF f (k / 2))) (fun _ _ => .r (pthF f (k / 2))) (k % 2)) = _
  cases k % 2 <;> rfl
theorem gO_l (p : Pth) (t : Tr α) : gO (.l p) t = gO p t.left ∨ t = .lf := by cases t <;> simp [gO, Tr.left]
theorem gO_lf (p : Pth) : gO p (.lf : Tr α) = none := by cases p <;> rfl
theorem gO_F : ∀ (f n : Nat) (t : Tr α), n < f → gO (pthF f n) t = t.get n := by
  intro f
  induction f with
  | zero => intro n t h; omega
  | succ f ih =>
    intro n t h
    cases n with
    | zero => cases t <;> rfl
    | succ k =>
      rw [pthF_s]
      cases hb : (k % 2).beq 0
      · simp only [cond_false]
        cases t with
        | lf => simp [gO, Tr.get]
        | nd l v r =>
          show gO (pthF f (k / 2)) r = _
          rw [ih _ _ (by omega)]; simp [Tr.get, hb]
      · simp only [cond_true]
        cases t with
        | lf => simp [gO, Tr.get]
        | nd l v r =>
          show gO (pthF f (k / 2)) l = _
          rw [ih _ _ (by omega)]; simp [Tr.get, hb]
theorem gO_eq (n : Nat) (t : Tr α) : gO (pth n) t = t.get n := gO_F _ _ _ (Nat.lt_succ_self n)
theorem gP_gO (p : Pth) : ∀ (t : Tr α) (K : α → Bool), gP p t K = bnd (gO p t) K := by
  induction p with
  | z => intro t K; cases t <;> rfl
  | l p ih => intro t K; cases t with
    | lf => rfl
    | nd l v r => exact ih l K
  | r p ih => intro t K; cases t with
    | lf => rfl
    | nd l v r => exact ih r K
theorem gP_true {n : Nat} {t : Tr α} {K : α → Bool} (h : gP (pth n) t K = true) : ∃ v, t.get n = some v ∧ K v = true := by
  rw [gP_gO, gO_eq] at h; exact bnd_true h
theorem pP_F : ∀ (f n : Nat) (v : Option α) (t : Tr α) (K : Tr α → Bool), n < f → pP (pthF f n) v t K = K (Tr.putF f t n v) := by
  intro f
  induction f with
  | zero => intro n v t K h; omega
  | succ f ih =>
    intro n v t K h
    cases n with
    | zero => cases t <;> rfl
    | succ k =>
      rw [pthF_s]
      simp only [Tr.putF]
      cases hb : (k % 2).beq 0
      · simp only [cond_false]
        cases t with
        | lf =>
          show pP (pthF f (k / 2)) v .lf _ = _
          rw [ih _ _ _ _ (by omega)]; rfl
        | nd l x r =>
          show pP (pthF f (k / 2)) v r _ = _
          rw [ih _ _ _ _ (by omega)]; rfl
      · simp only [cond_true]
        cases t with
        | lf =>
          show pP (pthF f (k / 2)) v .lf _ = _
          rw [ih _ _ _ _ (by omega)]; rfl
        | nd l x r =>
          show pP (pthF f (k / 2)) v l _ = _
          rw [ih _ _ _ _ (by omega)]; rfl
theorem pP_eq (n : Nat) (v : Option α) (t : Tr α) (K : Tr α → Bool) : pP (pth n) v t K = K (t.put n v) := pP_F _ _ _ _ _ (Nat.lt_succ_self n)
end
end
def Tr.map {α β : Type} (f : α → β) : Tr α → Tr β
  | .lf => .lf
  | .nd l v r => .nd (Tr.map f l) (v.map f) (Tr.map f r)
theorem Tr.get_map {α β : Type} (f : α → β) : ∀ (t : Tr α) (n : Nat), (t.map f).get n = (t.get n).map f := by
  intro t
  induction t with
  | lf => intro n; simp [Tr.map, Tr.get]
  | nd l v r ihl ihr =>
    intro n
    cases n with
    | zero => rfl
    | succ k =>
      simp only [Tr.map, Tr.get, ihl, ihr]
      cases (k % 2).beq 0 <;> rfl
theorem Tr.left_map {α β : Type} (f : α → β) (t : Tr α) : (t.map f).left = t.left.map f := by cases t <;> rfl
theorem Tr.right_map {α β : Type} (f : α → β) (t : Tr α) : (t.map f).right = t.right.map f := by cases t <;> rfl
theorem Tr.top_map {α β : Type} (f : α → β) (t : Tr α) : (t.map f).top = t.top.map f := by cases t <;> rfl
theorem Tr.putF_map {α β : Type} (f : α → β) : ∀ (k : Nat) (t : Tr α) (n : Nat) (v : Option α), (Tr.putF k t n v).map f = Tr.putF k (t.map f) n (v.map f) := by
  intro k
  induction k with
  | zero => intro t n v; rfl
  | succ k ih =>
    intro t n v
    cases n with
    | zero => simp only [Tr.putF, Tr.map, Tr.left_map, Tr.right_map]
    | succ n =>
      simp only [Tr.putF]
      cases (n % 2).beq 0
      · simp only [cond_false, Tr.map, Tr.left_map, Tr.right_map, Tr.top_map, ih]
      · simp only [cond_true, Tr.map, Tr.left_map, Tr.right_map, Tr.top_map, ih]
theorem Tr.put_map {α β : Type} (f : α → β) (t : Tr α) (n : Nat) (v : Option α) : (t.put n v).map f = (t.map f).put n (v.map f) := Tr.putF_map f _ _ _ _
/-! Blocks -/
/-- Cells, up to 4096. -/
abbrev C4 := Nest 4 SV
inductive Cs where
  | ls (l : List SV)
  | tr (zs : List (Nat × SV)) (t : Tr SV)
  | a (n : Nat) (x : C4)
def baseL (zs : List (Nat × SV)) : List SV := zs.flatMap fun p => List.replicate p.1 p.2
theorem flatZ_inst (ρ : Nat → Nat) (zs : List (Nat × Z0)) : flatZ zs = (baseL (Z0.ps zs)).map (SV.inst ρ) := by
  induction zs with
  | nil => rfl
  | cons p r ih =>
    have e1 : flatZ (p :: r) = List.replicate p.1 p.2.val ++ flatZ r := rfl
    have e2 : baseL (Z0.ps (p :: r)) = List.replicate p.1 p.2.sv ++ baseL (Z0.ps r) := rfl
    rw [e1, e2, ih, List.map_append, List.map_replicate, Z0.sv_inst]
def Cs.toL : Cs → List SV
  | .ls q => q
  | .tr zs q => (baseL zs).mapIdx fun i d => (q.get i).getD d
  | .a n x => (List.range n).map fun i => nAt i 4 x
theorem toL_a_len (n : Nat) (x : C4) : (Cs.a n x).toL.length = n := by simp [Cs.toL]
theorem toL_a_at (n : Nat) (x : C4) (i : Nat) : (Cs.a n x).toL[i]? = if i < n then some (nAt i 4 x) else none := by
  simp only [Cs.toL, List.getElem?_map]
  by_cases h : i < n
  · rw [List.getElem?_range h, if_pos h]; rfl
  · rw [List.getElem?_eq_none (by simpa using h), if_neg h]; rfl
theorem toL_a_set {n : Nat} (hn : n ≤ 4096) {i : Nat} (hi : i < n) (v : SV) (x : C4) : (Cs.a n (nSet i v 4 x)).toL = (Cs.a n x).toL.set i v := by
  apply List.ext_getElem?
  intro j
  rw [List.getElem?_set, toL_a_at, toL_a_at, toL_a_len, nAt_nSet]
  have e : (8 : Nat) ^ 4 = 4096 := rfl
  rw [e]
  by_cases h : i = j
  · subst h
    rw [if_pos hi, if_pos rfl, if_pos rfl, if_pos hi]
  · rw [if_neg h]
    by_cases hj : j < n
    · rw [if_pos hj, if_pos hj, if_neg]
      rw [Nat.mod_eq_of_lt (by omega), Nat.mod_eq_of_lt (by omega)]
      exact fun e => h e.symm
    · rw [if_neg hj, if_neg hj]
structure SOb where
  c : Cs
  e : TypeId
  r : Bool
def SOb.inst (ρ : Nat → Nat) (o : SOb) : Ob := ⟨o.c.toL.map (SV.inst ρ), o.e, o.r⟩
/-! Memory: up to 32767 blocks -/
abbrev HT := Nest 5 (Option SOb)
def hAt (b : Nat) (t : HT) : Option SOb := nAt b 5 t
def instH (ρ : Nat → Nat) (t : HT) (n : Nat) : Heap := ⟨full 15 fun b => (hAt b t).map (SOb.inst ρ), n⟩
theorem get_instH {ρ : Nat → Nat} {t : HT} {n b : Nat} (h : b < 32767) : (instH ρ t n).get b = (hAt b t).map (SOb.inst ρ) := full_get 15 (fun b => (hAt b t).map (SOb.inst ρ)) b (show b + 1 < 2 ^ 15 by omega)
theorem set_instH (ρ : Nat → Nat) {t : HT} {n b : Nat} (h : b < 32767) (o : Option SOb) : (instH ρ (nSet b o 5 t) n) = ⟨(instH ρ t n).t.put b (o.map (SOb.inst ρ)), n⟩ := by
  have e : (instH ρ t n).t.put b (o.map (SOb.inst ρ)) = _ := full_put (d := 15) (f := fun b => (hAt b t).map (SOb.inst ρ)) (show b + 1 < 2 ^ 15 by omega)
  rw [e]
  unfold instH
  congr 1
  have e5 : (8 : Nat) ^ 5 = 32768 := rfl
  have key : ∀ (d : Nat) (f g : Nat → Option Ob), (∀ j, j + 1 < 2 ^ d → f j = g j) → full d f = full d g := by
    intro d
    induction d with
    | zero => intro f g _; rfl
    | succ d ih =>
      intro f g hfg
      have hp : 0 < 2 ^ d := Nat.two_pow_pos d
      rw [Nat.pow_succ] at hfg
      simp only [full]
      rw [hfg 0 (by omega), ih _ _ fun j hj => hfg (2 * j + 1) (by omega), ih _ _ fun j hj => hfg (2 * j + 2) (by omega)]
  refine key _ _ _ fun j hj => ?_
  have hj : j < 32767 := by
    have : (2 : Nat) ^ 15 = 32768 := rfl
    omega
  unfold hAt
  rw [nAt_nSet, e5, Nat.mod_eq_of_lt (show j < 32768 by omega), Nat.mod_eq_of_lt (show b < 32768 by omega)]
  by_cases hjb : j = b
  · rw [if_pos hjb, if_pos hjb]
  · rw [if_neg hjb, if_neg hjb]
theorem put_instH (ρ : Nat → Nat) {t : HT} {n b : Nat} (h : b < 32767) (o : SOb) : instH ρ (nSet b (some o) 5 t) n = (instH ρ t n).put b (o.inst ρ) := set_instH ρ h (some o)
theorem kill_instH (ρ : Nat → Nat) {t : HT} {n b : Nat} (h : b < 32767) : instH ρ (nSet b none 5 t) n = (instH ρ t n).kill b := set_instH ρ h none
theorem push_instH (ρ : Nat → Nat) {t : HT} {n : Nat} (h : n < 32767) (o : SOb) : instH ρ (nSet n (some o) 5 t) (n + 1) = (instH ρ t n).push (o.inst ρ) := by
  have := put_instH ρ (t := t) (n := n) h o
  have e := congrArg Heap.t this
  show (⟨(instH ρ (nSet n (some o) 5 t) n).t, n + 1⟩ : Heap) = ⟨(instH ρ t n).t.put n (some (o.inst ρ)), n + 1⟩
  rw [e]; rfl
/-! Cells -/
noncomputable section
def nthK {α : Type} (l : List α) : Nat → (α → Bool) → Bool := List.rec (motive := fun _ => Nat → (α → Bool) → Bool) (fun _ _ => false) (fun a _ ih n K => Nat.rec (motive := fun _ => Bool) (K a) (fun m _ => ih m K) n) l
theorem nthK_true {α : Type} {l : List α} : ∀ {n : Nat} {K : α → Bool}, nthK l n K = true → ∃ a, l[n]? = some a ∧ K a = true := by
  induction l with
  | nil => intro n K h; cases h
  | cons a l ih =>
    intro n K h
    cases n with
    | zero => exact ⟨a, rfl, h⟩
    | succ n => obtain ⟨b, h1, h2⟩ := ih (n := n) h; exact ⟨b, by simpa using h1, h2⟩
/-- Which value stands at a place where none was laid. -/
def dflK (zs : List (Nat × SV)) : Nat → (SV → Bool) → Bool := List.rec (motive := fun _ => Nat → (SV → Bool) → Bool) (fun _ _ => false) (fun p _ ih i K => Bool.rec (motive := fun _ => Bool) (ih (Nat.sub i p.1) K) (K p.2) (Nat.blt i p.1)) zs
theorem dflK_true : ∀ {zs : List (Nat × SV)} {i : Nat} {K : SV → Bool}, dflK zs i K = true → ∃ v, (baseL zs)[i]? = some v ∧ K v = true := by
  intro zs
  induction zs with
  | nil => intro i K h; cases h
  | cons p zs ih =>
    intro i K h
    have h : (Bool.rec (motive := fun _ => Bool) (dflK zs (i - p.1) K) (K p.2) (Nat.blt i p.1)) = true := h
    have hb : baseL (p :: zs) = List.replicate p.1 p.2 ++ baseL zs := rfl
    rw [hb]
    cases hlt : Nat.blt i p.1
    · rw [hlt] at h
      have hge : p.1 ≤ i := by
        have : ¬ i < p.1 := fun q => by rw [show Nat.blt i p.1 = true from Nat.ble_eq_true_of_le q] at hlt; cases hlt
        omega
      obtain ⟨v, h1, h2⟩ := ih h
      exact ⟨v, by rw [List.getElem?_append_right (by simpa using hge)]; simpa using h1, h2⟩
    · rw [hlt] at h
      have hl : i < p.1 := Nat.le_of_ble_eq_true hlt
      exact ⟨p.2, by rw [List.getElem?_append_left (by simpa using hl)]; simp [hl], h⟩
def tGet (zs : List (Nat × SV)) (tr : Tr SV) (i : Nat) (K : SV → Bool) : Bool := Option.rec (motive := fun _ => Bool) (dflK zs i K) (fun v => dflK zs i fun _ => K v) (gO (pth i) tr)
theorem tGet_true {zs : List (Nat × SV)} {tr : Tr SV} {i : Nat} {K : SV → Bool} (h : tGet zs tr i K = true) : ∃ v, (Cs.tr zs tr).toL[i]? = some v ∧ K v = true := by
  unfold tGet at h
  simp only [Cs.toL, List.getElem?_mapIdx]
  cases hg : gO (pth i) tr with
  | none =>
    rw [hg] at h
    obtain ⟨v, h1, h2⟩ := dflK_true h
    rw [gO_eq] at hg
    exact ⟨v, by rw [h1, hg]; rfl, h2⟩
  | some v =>
    rw [hg] at h
    obtain ⟨u1, h1, h2⟩ := dflK_true h
    rw [gO_eq] at hg
    exact ⟨v, by rw [h1, hg]; rfl, h2⟩
noncomputable def cG (n i : Nat) : Bx (C4 → (SV → Bool) → Bool) := Bool.rec (motive := fun _ => Bx (C4 → (SV → Bool) → Bool)) (.mk fun _ _ => false) (Bx.rec (motive := fun _ => Bx (C4 → (SV → Bool) → Bool)) (fun g => .mk fun x K => K (g x)) (nG 4 i)) (Nat.ble (Nat.succ i) n)
theorem cG_true {n i : Nat} {x : C4} {K : SV → Bool} (h : Bx.rec (motive := fun _ => Bool) (fun g => g x K) (cG n i) = true) : i < n ∧ K (nAt i 4 x) = true := by
  unfold cG at h
  cases hb : Nat.ble (Nat.succ i) n
  · rw [hb] at h; cases h
  · rw [hb, nG_eq] at h
    exact ⟨Nat.le_of_ble_eq_true hb, h⟩
/-- The cell at a place. -/
def cgK (c : Cs) (i : Nat) (K : SV → Bool) : Bool := Cs.rec (motive := fun _ => Bool) (fun l => nthK l i K) (fun zs tr => tGet zs tr i K) (fun n x => Bx.rec (motive := fun _ => Bool) (fun g => g x K) (cG n i)) c
theorem cgK_true {c : Cs} {i : Nat} {K : SV → Bool} (h : cgK c i K = true) : ∃ v, c.toL[i]? = some v ∧ K v = true := by
  cases c with
  | ls l =>
    show ∃ v, l[i]? = some v ∧ K v = true
    exact nthK_true h
  | tr zs tr => exact tGet_true h
  | a n x =>
    obtain ⟨h1, h2⟩ := cG_true (n := n) (i := i) h
    exact ⟨_, by rw [toL_a_at, if_pos h1], h2⟩
def dropK {α : Type} (n : Nat) : List α → (List α → Bool) → Bool := Nat.rec (motive := fun _ => List α → (List α → Bool) → Bool) (fun l K => K l) (fun _ ih l K => List.rec (motive := fun _ => Bool) (K []) (fun _ t _ => ih t K) l) n
theorem dropK_eq {α : Type} (n : Nat) : ∀ (l : List α) K, dropK n l K = K (l.drop n) := by
  induction n with
  | zero => intro l K; rfl
  | succ n ih =>
    intro l K
    cases l with
    | nil => rfl
    | cons a l => exact ih l K
def takeK {α : Type} (n : Nat) : List α → (List α → Bool) → Bool := Nat.rec (motive := fun _ => List α → (List α → Bool) → Bool) (fun l K => K []) (fun _ ih l K => List.rec (motive := fun _ => Bool) false (fun a t _ => ih t fun r => K (a :: r)) l) n
theorem takeK_true {α : Type} : ∀ (n : Nat) {l : List α} {K : List α → Bool}, takeK n l K = true → (l.take n).length = n ∧ K (l.take n) = true := by
  intro n
  induction n with
  | zero => intro l K h; exact ⟨by simp, h⟩
  | succ n ih =>
    intro l K h
    cases l with
    | nil => cases h
    | cons a l =>
      obtain ⟨h1, h2⟩ := ih (K := fun r => K (a :: r)) h
      exact ⟨by rw [List.take_succ_cons, List.length_cons, h1], h2⟩
def tRow (zs : List (Nat × SV)) (tr : Tr SV) (n : Nat) : Nat → (List SV → Bool) → Bool := Nat.rec (motive := fun _ => Nat → (List SV → Bool) → Bool) (fun i K => K []) (fun _ ih i K => tGet zs tr i fun v => fN (Nat.succ i) fun j => ih j fun l => K (v :: l)) n
theorem tRow_true {zs : List (Nat × SV)} {tr : Tr SV} : ∀ (n : Nat) {i : Nat} {K : List SV → Bool}, tRow zs tr n i K = true → (((Cs.tr zs tr).toL.drop i).take n).length = n ∧ K (((Cs.tr zs tr).toL.drop i).take n) = true := by
  intro n
  induction n with
  | zero => intro i K h; exact ⟨by simp, h⟩
  | succ n ih =>
    intro i K h
    have h : tGet zs tr i (fun v => fN (Nat.succ i) fun j => tRow zs tr n j fun l => K (v :: l)) = true := h
    obtain ⟨v, h1, h2⟩ := tGet_true h
    rw [fN_eq] at h2
    obtain ⟨h3, h4⟩ := ih h2
    obtain ⟨hlt, hv⟩ := List.getElem?_eq_some_iff.1 h1
    rw [List.drop_eq_getElem_cons hlt, List.take_succ_cons, hv]
    exact ⟨by rw [List.length_cons, h3], h4⟩
def rL (k : Nat) : Nat → Bx (C4 → List SV) := Nat.rec (motive := fun _ => Nat → Bx (C4 → List SV)) (fun _ => .mk fun _ => []) (fun _ ih i => Bx.rec (motive := fun _ => Bx (C4 → List SV)) (fun g => Bx.rec (motive := fun _ => Bx (C4 → List SV)) (fun r => .mk fun x => g x :: r x) (ih (Nat.succ i))) (nG 4 i)) k
theorem rL_eq (k : Nat) : ∀ i, rL k i = .mk fun x => (List.range' i k).map fun j => nAt j 4 x := by
  induction k with
  | zero => intro i; rfl
  | succ k ih =>
    intro i
    show (Bx.rec (motive := fun _ => Bx (C4 → List SV)) (fun g => Bx.rec (motive := fun _ => Bx (C4 → List SV)) (fun r => .mk fun x => g x :: r x) (rL k (Nat.succ i))) (nG 4 i)) = _
    rw [nG_eq, ih]
    rfl
def rG (n i k : Nat) : Bx (C4 → (List SV → Bool) → Bool) := Bool.rec (motive := fun _ => Bx (C4 → (List SV → Bool) → Bool)) (.mk fun _ _ => false) (Bx.rec (motive := fun _ => Bx (C4 → (List SV → Bool) → Bool)) (fun g => .mk fun x K => K (g x)) (rL k i)) (Nat.ble (Nat.add i k) n)
theorem rG_true {n i k : Nat} {x : C4} {K : List SV → Bool} (h : Bx.rec (motive := fun _ => Bool) (fun g => g x K) (rG n i k) = true) : i + k ≤ n ∧ K (((Cs.a n x).toL.drop i).take k) = true := by
  unfold rG at h
  cases hb : Nat.ble (Nat.add i k) n
  · rw [hb] at h; cases h
  · rw [hb, rL_eq] at h
    have hle : i + k ≤ n := Nat.le_of_ble_eq_true hb
    refine ⟨hle, ?_⟩
    have e : ((Cs.a n x).toL.drop i).take k = (List.range' i k).map fun j => nAt j 4 x := by
      simp only [Cs.toL]
      rw [← List.map_drop, ← List.map_take]
      congr 1
      rw [List.range_eq_range']
      apply List.ext_getElem?
      intro j
      rw [List.getElem?_take]
      by_cases hj : j < k
      · rw [if_pos hj, List.getElem?_drop, List.getElem?_range' (by omega), List.getElem?_range' hj]; simp
      · rw [if_neg hj, List.getElem?_eq_none (by simpa using hj)]
    rw [e]; exact h
/-- Cells one behind the other. -/
def crK (c : Cs) (i n : Nat) (K : List SV → Bool) : Bool := Cs.rec (motive := fun _ => Bool) (fun l => dropK i l fun l => takeK n l K) (fun zs tr => tRow zs tr n i K) (fun m x => Bx.rec (motive := fun _ => Bool) (fun g => g x K) (rG m i n)) c
theorem crK_true {c : Cs} {i n : Nat} {K : List SV → Bool} (h : crK c i n K = true) : ((c.toL.drop i).take n).length = n ∧ K ((c.toL.drop i).take n) = true := by
  cases c with
  | ls l =>
    have h : dropK i l (fun l => takeK n l K) = true := h
    rw [dropK_eq] at h
    show ((l.drop i).take n).length = n ∧ K ((l.drop i).take n) = true
    exact takeK_true n h
  | tr zs tr => exact tRow_true n h
  | a m x =>
    obtain ⟨h1, h2⟩ := rG_true (n := m) (i := i) (k := n) h
    exact ⟨by rw [List.length_take, List.length_drop, toL_a_len]; omega, h2⟩
/-! Writing -/
def setK (l : List SV) : Nat → SV → (List SV → Bool) → Bool := List.rec (motive := fun _ => Nat → SV → (List SV → Bool) → Bool) (fun _ _ _ => false) (fun a t ih n v K => Nat.rec (motive := fun _ => Bool) (K (v :: t)) (fun m _ => ih m v fun r => K (a :: r)) n) l
theorem setK_true : ∀ {l : List SV} {n : Nat} {v : SV} {K : List SV → Bool}, setK l n v K = true → n < l.length ∧ K (l.set n v) = true := by
  intro l
  induction l with
  | nil => intro n v K h; cases h
  | cons a l ih =>
    intro n v K h
    cases n with
    | zero => exact ⟨by simp, h⟩
    | succ n => obtain ⟨h1, h2⟩ := ih (n := n) (K := fun r => K (a :: r)) h; exact ⟨by simp; omega, h2⟩
def tSet (zs : List (Nat × SV)) (tr : Tr SV) (i : Nat) (v : SV) (K : Tr SV → Bool) : Bool := dflK zs i fun _ => pP (pth i) (some v) tr K
theorem baseL_at {zs : List (Nat × SV)} {i : Nat} {v : SV} (h : (baseL zs)[i]? = some v) : i < (baseL zs).length := (List.getElem?_eq_some_iff.1 h).1
theorem toL_len (zs : List (Nat × SV)) (tr : Tr SV) : (Cs.tr zs tr).toL.length = (baseL zs).length := by simp [Cs.toL]
theorem toL_put (zs : List (Nat × SV)) (tr : Tr SV) (i : Nat) (v : SV) : (Cs.tr zs (tr.put i (some v))).toL = (Cs.tr zs tr).toL.set i v := by
  apply List.ext_getElem?
  intro j
  rw [List.getElem?_set]
  simp only [Cs.toL, List.getElem?_mapIdx, Tr.get_put, List.length_mapIdx]
  by_cases h : i = j
  · subst h
    rw [if_pos rfl, if_pos rfl]
    cases hb : (baseL zs)[i]? with
    | none =>
      have := List.getElem?_eq_none_iff.1 hb
      rw [if_neg (by omega)]; rfl
    | some x => rw [if_pos (baseL_at hb)]; rfl
  · rw [if_neg h, if_neg (fun e => h e.symm)]
theorem tSet_true {zs : List (Nat × SV)} {tr : Tr SV} {i : Nat} {v : SV} {K : Tr SV → Bool} (h : tSet zs tr i v K = true) : ∃ tr', (Cs.tr zs tr').toL = (Cs.tr zs tr).toL.set i v ∧ i < (Cs.tr zs tr).toL.length ∧ K tr' = true := by
  unfold tSet at h
  obtain ⟨u1, h1, h2⟩ := dflK_true h
  rw [pP_eq] at h2
  exact ⟨_, toL_put zs tr i v, by rw [toL_len]; exact baseL_at h1, h2⟩
def cP (n i : Nat) : Bx (SV → C4 → (C4 → Bool) → Bool) := Bool.rec (motive := fun _ => Bx (SV → C4 → (C4 → Bool) → Bool)) (.mk fun _ _ _ => false) (Bool.rec (motive := fun _ => Bx (SV → C4 → (C4 → Bool) → Bool)) (.mk fun _ _ _ => false) (nP 4 i) (Nat.ble n 4096)) (Nat.ble (Nat.succ i) n)
theorem cP_true {n i : Nat} {v : SV} {x : C4} {K : C4 → Bool} (h : Bx.rec (motive := fun _ => Bool) (fun g => g v x K) (cP n i) = true) : i < n ∧ n ≤ 4096 ∧ K (nSet i v 4 x) = true := by
  unfold cP at h
  cases hb : Nat.ble (Nat.succ i) n
  · rw [hb] at h; cases h
  · cases hc : Nat.ble n 4096
    · rw [hb, hc] at h; cases h
    · rw [hb, hc, nP_eq] at h
      exact ⟨Nat.le_of_ble_eq_true hb, Nat.le_of_ble_eq_true hc, h⟩
/-- One cell is written. -/
def c1K (c : Cs) (i : Nat) (v : SV) (K : Cs → Bool) : Bool := Cs.rec (motive := fun _ => Bool) (fun l => setK l i v fun l => K (.ls l)) (fun zs tr => tSet zs tr i v fun tr => K (.tr zs tr)) (fun n x => Bx.rec (motive := fun _ => Bool) (fun g => g v x fun x => K (.a n x)) (cP n i)) c
theorem c1K_true {c : Cs} {i : Nat} {v : SV} {K : Cs → Bool} (h : c1K c i v K = true) : ∃ c', c'.toL = c.toL.set i v ∧ i < c.toL.length ∧ K c' = true := by
  cases c with
  | ls l => obtain ⟨h1, h2⟩ := setK_true (K := fun l => K (.ls l)) h; exact ⟨.ls (l.set i v), rfl, h1, h2⟩
  | tr zs tr => obtain ⟨tr', h1, h2, h3⟩ := tSet_true (K := fun tr => K (.tr zs tr)) h; exact ⟨_, h1, h2, h3⟩
  | a n x =>
    obtain ⟨h1, h2, h3⟩ := cP_true (n := n) (i := i) (v := v) (x := x) (K := fun x => K (.a n x)) h
    exact ⟨_, toL_a_set h2 h1 v x, by rw [toL_a_len]; exact h1, h3⟩
def cwK (vs : List SV) : Nat → Cs → (Cs → Bool) → Bool := List.rec (motive := fun _ => Nat → Cs → (Cs → Bool) → Bool) (fun _ c K => K c) (fun v _ ih i c K => c1K c i v fun c => fN (Nat.succ i) fun j => ih j c K) vs
theorem cwK_true : ∀ {vs : List SV} {i : Nat} {c : Cs} {K : Cs → Bool}, cwK vs i c K = true → i ≤ c.toL.length → ∃ c', c'.toL = c.toL.take i ++ vs ++ c.toL.drop (i + vs.length) ∧ i + vs.length ≤ c.toL.length ∧ K c' = true := by
  intro vs
  induction vs with
  | nil => intro i c K h hi; exact ⟨c, by simp, by simpa using hi, h⟩
  | cons v vs ih =>
    intro i c K h hi
    have h : c1K c i v (fun c => fN (Nat.succ i) fun j => cwK vs j c K) = true := h
    obtain ⟨c', h1, h2, h3⟩ := c1K_true h
    rw [fN_eq] at h3
    obtain ⟨c2, h4, h5, h6⟩ := ih h3 (by rw [h1, List.length_set]; omega)
    rw [h1, List.length_set] at h5
    refine ⟨c2, ?_, by rw [List.length_cons]; omega, h6⟩
    rw [h4, h1]
    have e1 : (c.toL.set i v).take (i + 1) = c.toL.take i ++ [v] := by
      rw [List.take_add_one, List.take_set, List.set_eq_of_length_le (by rw [List.length_take]; omega), List.getElem?_set_self h2]; rfl
    have e2 : (c.toL.set i v).drop (i + 1 + vs.length) = c.toL.drop (i + (v :: vs).length) := by
      rw [List.drop_set_of_lt (by omega)]
      congr 1; simp only [List.length_cons]; omega
    rw [show Nat.succ i = i + 1 from rfl, e1, e2]
    simp
/-! Rows are laid -/
def layN (k : Nat) : List SV → (Nest k SV → List SV → Bool) → Bool := Nat.rec (motive := fun k => List SV → (Nest k SV → List SV → Bool) → Bool) (fun l K => List.rec (motive := fun _ => Bool) (K .u []) (fun v r _ => K v r) l)
  (fun k ih l K => List.rec (motive := fun _ => Bool) (K (nRep .u (k + 1)) []) (fun _ _ _ => ih l fun a0 l => ih l fun a1 l => ih l fun a2 l => ih l fun a3 l => ih l fun a4 l => ih l fun a5 l => ih l fun a6 l => ih l fun a7 l => K (.mk a0 a1 a2 a3 a4 a5 a6 a7) l) l) k
theorem layN_true : ∀ (k : Nat) {l : List SV} {K : Nest k SV → List SV → Bool}, layN k l K = true → ∃ x, (∀ i, i < 8 ^ k → nAt i k x = (l[i]?).getD .u) ∧ K x (l.drop (8 ^ k)) = true := by
  intro k
  induction k with
  | zero =>
    intro l K h
    cases l with
    | nil => exact ⟨.u, fun i _ => rfl, h⟩
    | cons v r => exact ⟨v, fun i hi => by obtain rfl : i = 0 := by simpa using hi
                                           rfl, h⟩
  | succ k ih =>
    intro l K h
    cases l with
    | nil =>
      refine ⟨nRep .u (k + 1), fun i _ => ?_, ?_⟩
      · rw [nAt_rep]; simp
      · rw [List.drop_nil]; exact h
    | cons v r =>
      generalize hl : v :: r = l at h
      subst hl
      have h : (layN k (v :: r) fun a0 l => layN k l fun a1 l => layN k l fun a2 l => layN k l fun a3 l => layN k l fun a4 l => layN k l fun a5 l => layN k l fun a6 l => layN k l fun a7 l => K (.mk a0 a1 a2 a3 a4 a5 a6 a7) l) = true := h
      generalize v :: r = l at h
      obtain ⟨a0, g0, h⟩ := ih h
      obtain ⟨a1, g1, h⟩ := ih h
      obtain ⟨a2, g2, h⟩ := ih h
      obtain ⟨a3, g3, h⟩ := ih h
      obtain ⟨a4, g4, h⟩ := ih h
      obtain ⟨a5, g5, h⟩ := ih h
      obtain ⟨a6, g6, h⟩ := ih h
      obtain ⟨a7, g7, h⟩ := ih h
      simp only [List.drop_drop] at h g1 g2 g3 g4 g5 g6 g7
      refine ⟨.mk a0 a1 a2 a3 a4 a5 a6 a7, fun i hi => ?_, ?_⟩
      · rw [nAt_s]
        have hp : 0 < 8 ^ k := Nat.pow_pos (by omega)
        rw [Nat.pow_succ] at hi
        have hd : i / 8 ^ k < 8 := Nat.div_lt_of_lt_mul hi
        have hm := Nat.div_add_mod i (8 ^ k)
        have hr : i % 8 ^ k < 8 ^ k := Nat.mod_lt _ hp
        have idx : ∀ (x : Nest k SV), (∀ j q : Nat, nAt (8 ^ k * q + j) k x = nAt j k x) := by
          have : ∀ (k' : Nat), k' ≤ k → ∀ (x : Nest k' SV) (j q : Nat), nAt (8 ^ k * q + j) k' x = nAt j k' x := by
            intro k'
            induction k' with
            | zero => intro _ x j q; rfl
            | succ k' ih' =>
              intro hk x j q
              rw [nAt_s, nAt_s, ih' (by omega)]
              have hdig : dig ((8 ^ k * q + j) / 8 ^ k') = dig (j / 8 ^ k') := by
                apply dig_mod
                have e : 8 ^ k = 8 ^ k' * (8 * 8 ^ (k - k' - 1)) := by
                  rw [← Nat.pow_succ', ← Nat.pow_add]; congr 1; omega
                rw [e, Nat.mul_assoc, Nat.mul_add_div (Nat.pow_pos (by omega)), Nat.mul_assoc, Nat.mul_add_mod]
              rw [hdig]
          exact this k (Nat.le_refl k)
        rw [← hm]
        generalize i / 8 ^ k = q at hd
        generalize i % 8 ^ k = j at hr
        have hq : (8 ^ k * q + j) / 8 ^ k = q := by rw [Nat.mul_add_div hp, Nat.div_eq_of_lt hr]; rfl
        rw [hq, idx]
        match q, hd with
        | 0, _ => rw [show dig 0 = .d0 from rfl]; show nAt j k a0 = _; rw [g0 j hr]; simp
        | 1, _ => rw [show dig 1 = .d1 from rfl]; show nAt j k a1 = _; rw [g1 j hr, List.getElem?_drop]; congr 2; omega
        | 2, _ => rw [show dig 2 = .d2 from rfl]; show nAt j k a2 = _; rw [g2 j hr, List.getElem?_drop]; congr 2; omega
        | 3, _ => rw [show dig 3 = .d3 from rfl]; show nAt j k a3 = _; rw [g3 j hr, List.getElem?_drop]; congr 2; omega
        | 4, _ => rw [show dig 4 = .d4 from rfl]; show nAt j k a4 = _; rw [g4 j hr, List.getElem?_drop]; congr 2; omega
        | 5, _ => rw [show dig 5 = .d5 from rfl]; show nAt j k a5 = _; rw [g5 j hr, List.getElem?_drop]; congr 2; omega
        | 6, _ => rw [show dig 6 = .d6 from rfl]; show nAt j k a6 = _; rw [g6 j hr, List.getElem?_drop]; congr 2; omega
        | 7, _ => rw [show dig 7 = .d7 from rfl]; show nAt j k a7 = _; rw [g7 j hr, List.getElem?_drop]; congr 2; omega
      · have e : 8 ^ (k + 1) = 8 ^ k + 8 ^ k + 8 ^ k + 8 ^ k + 8 ^ k + 8 ^ k + 8 ^ k + 8 ^ k := by rw [Nat.pow_succ]; omega
        rw [e]; exact h
def w4 (a : N8 SV) : C4 := .mk (.mk (.mk a (nRep .u 1) (nRep .u 1) (nRep .u 1) (nRep .u 1) (nRep .u 1) (nRep .u 1) (nRep .u 1)) (nRep .u 2) (nRep .u 2) (nRep .u 2) (nRep .u 2) (nRep .u 2) (nRep .u 2) (nRep .u 2)) (nRep .u 3) (nRep .u 3) (nRep .u 3) (nRep .u 3) (nRep .u 3) (nRep .u 3) (nRep .u 3)
theorem w4_at (a : N8 SV) (i : Nat) (h : i < 8) : nAt i 4 (w4 a) = nAt i 1 a := by
  rw [nAt_s, nAt_s, nAt_s]
  have e3 : i / 8 ^ 3 = 0 := Nat.div_eq_of_lt (by omega)
  have e2 : i / 8 ^ 2 = 0 := Nat.div_eq_of_lt (by omega)
  have e1 : i / 8 ^ 1 = 0 := Nat.div_eq_of_lt (by omega)
  rw [e3, e2, e1]; rfl
def cntK (l : List SV) : Nat → (Nat → Bool) → Bool := List.rec (motive := fun _ => Nat → (Nat → Bool) → Bool) (fun n K => K n) (fun _ _ ih n K => fN (Nat.succ n) fun n => ih n K) l
theorem cntK_eq : ∀ (l : List SV) (n : Nat) (K : Nat → Bool), cntK l n K = K (n + l.length) := by
  intro l
  induction l with
  | nil => intro n K; rfl
  | cons v l ih =>
    intro n K
    show cntK l (Nat.succ n) K = _
    rw [ih, List.length_cons, Nat.succ_add, Nat.add_succ]
/-- A block's cells, from a list. -/
def mkC (l : List SV) (K : Cs → Bool) : Bool := cntK l 0 fun n => Bool.rec (motive := fun _ => Bool) (Bool.rec (motive := fun _ => Bool) (K (.ls l)) (layN 4 l fun x _ => K (.a n x)) (Nat.ble n 4096)) (layN 1 l fun x _ => K (.a n (w4 x))) (Nat.ble n 8)
theorem toL_ext {n : Nat} {x : C4} {l : List SV} (hn : n = l.length) (h : ∀ i, i < n → nAt i 4 x = (l[i]?).getD .u) : (Cs.a n x).toL = l := by
  apply List.ext_getElem?
  intro j
  rw [toL_a_at]
  by_cases hj : j < n
  · rw [if_pos hj, h j hj, List.getElem?_eq_getElem (by omega)]; rfl
  · rw [if_neg hj, List.getElem?_eq_none (by omega)]
theorem mkC_true {l : List SV} {K : Cs → Bool} (h : mkC l K = true) : ∃ c, c.toL = l ∧ K c = true := by
  unfold mkC at h
  rw [cntK_eq, Nat.zero_add] at h
  cases h8 : Nat.ble l.length 8
  · rw [h8] at h
    cases h4 : Nat.ble l.length 4096
    · rw [h4] at h; exact ⟨.ls l, rfl, h⟩
    · rw [h4] at h
      obtain ⟨x, h1, h2⟩ := layN_true 4 h
      have := Nat.le_of_ble_eq_true h4
      exact ⟨_, toL_ext rfl fun i hi => h1 i (by have : (8 : Nat) ^ 4 = 4096 := rfl
                                                 omega), h2⟩
  · rw [h8] at h
    obtain ⟨x, h1, h2⟩ := layN_true 1 h
    have := Nat.le_of_ble_eq_true h8
    refine ⟨_, toL_ext rfl fun i hi => ?_, h2⟩
    rw [w4_at _ _ (by omega)]
    exact h1 i (by omega)
/-- Cells that all are one. -/
def repC (n : Nat) (v : SV) : Cs := Bool.rec (motive := fun _ => Cs) (.tr [(n, v)] .lf) (.a n (nRep v 4)) (Nat.ble n 4096)
theorem repC_toL (n : Nat) (v : SV) : (repC n v).toL = List.replicate n v := by
  unfold repC
  cases Nat.ble n 4096
  · have e : ∀ l : List SV, (l.mapIdx fun _ d => d) = l := fun l => by
      induction l with
      | nil => rfl
      | cons a l ih => rw [List.mapIdx_cons, ih]
    show ((baseL [(n, v)]).mapIdx fun i d => ((Tr.lf : Tr SV).get i).getD d) = _
    have : baseL [(n, v)] = List.replicate n v := by simp [baseL]
    rw [this]; exact e _
  · show (List.range n).map (fun i => nAt i 4 (nRep v 4)) = _
    simp only [nAt_rep, List.map_const', List.length_range]
/-- More cells behind those that are there. -/
def moreK (vs : List SV) : Nat → C4 → (Nat → C4 → Bool) → Bool := List.rec (motive := fun _ => Nat → C4 → (Nat → C4 → Bool) → Bool) (fun i x K => K i x) (fun v _ ih i x K => fN (Nat.succ i) fun j => Bx.rec (motive := fun _ => Bool) (fun g => g v x fun x => ih j x K) (cP j i)) vs
theorem moreK_true : ∀ {vs : List SV} {i : Nat} {x : C4} {K : Nat → C4 → Bool}, moreK vs i x K = true → ∃ n y, (Cs.a n y).toL = (Cs.a i x).toL ++ vs ∧ K n y = true := by
  intro vs
  induction vs with
  | nil => intro i x K h; exact ⟨i, x, by simp, h⟩
  | cons v vs ih =>
    intro i x K h
    have h : Bx.rec (motive := fun _ => Bool) (fun g => g v x fun x => moreK vs (Nat.succ i) x K) (cP (Nat.succ i) i) = true := h
    obtain ⟨h1, h2, h3⟩ := cP_true h
    obtain ⟨n, y, h4, h5⟩ := ih h3
    refine ⟨n, y, ?_, h5⟩
    rw [h4, toL_a_set h2 h1]
    have e : ((Cs.a (Nat.succ i) x).toL.set i v) = (Cs.a i x).toL ++ [v] := by
      apply List.ext_getElem?
      intro j
      rw [List.getElem?_set, toL_a_len, toL_a_at]
      by_cases hj : i = j
      · subst hj
        rw [if_pos rfl, if_pos (by omega), List.getElem?_append_right (by rw [toL_a_len]; omega), toL_a_len, Nat.sub_self]; rfl
      · rw [if_neg hj]
        by_cases hl : j < i
        · rw [List.getElem?_append_left (by rw [toL_a_len]; exact hl), toL_a_at, if_pos (by omega), if_pos hl]
        · rw [if_neg (by omega), List.getElem?_eq_none (by rw [List.length_append, toL_a_len, List.length_singleton]; omega)]
    rw [e, List.append_assoc]; rfl
/-! Memory is read and written -/
def hG (b : Nat) : Bx (HT → Option SOb) := Bool.rec (motive := fun _ => Bx (HT → Option SOb)) (.mk fun _ => none) (nG 5 b) (Nat.ble (Nat.succ b) 32767)
def obK (b : Nat) (t : HT) (K : Cs → TypeId → Bool → Bool) : Bool := Bx.rec (motive := fun _ => Bool) (fun g => Option.rec (motive := fun _ => Bool) false (fun o => SOb.rec (motive := fun _ => Bool) (fun c e r => K c e r) o) (g t)) (hG b)
theorem obK_true {b : Nat} {t : HT} {K : Cs → TypeId → Bool → Bool} (h : obK b t K = true) : ∃ c e r, (∀ ρ n, (instH ρ t n).get b = some ⟨c.toL.map (SV.inst ρ), e, r⟩) ∧ K c e r = true := by
  unfold obK hG at h
  cases hb : Nat.ble (Nat.succ b) 32767
  · rw [hb] at h; cases h
  · rw [hb, nG_eq] at h
    have h : Option.rec (motive := fun _ => Bool) false (fun o => SOb.rec (motive := fun _ => Bool) (fun c e r => K c e r) o) (hAt b t) = true := h
    cases ho : hAt b t with
    | none => rw [ho] at h; cases h
    | some o =>
      rw [ho] at h
      obtain ⟨c, e, r⟩ := o
      exact ⟨c, e, r, fun ρ n => by rw [get_instH (Nat.le_of_ble_eq_true hb), ho]; rfl, h⟩
theorem obK_at {b : Nat} {t : HT} {K : Cs → TypeId → Bool → Bool} (h : obK b t K = true) : ∃ c e r, b < 32767 ∧ hAt b t = some ⟨c, e, r⟩ ∧ K c e r = true := by
  unfold obK hG at h
  cases hb : Nat.ble (Nat.succ b) 32767
  · rw [hb] at h; cases h
  · rw [hb, nG_eq] at h
    have h : Option.rec (motive := fun _ => Bool) false (fun o => SOb.rec (motive := fun _ => Bool) (fun c e r => K c e r) o) (hAt b t) = true := h
    cases ho : hAt b t with
    | none => rw [ho] at h; cases h
    | some o =>
      rw [ho] at h
      obtain ⟨c, e, r⟩ := o
      exact ⟨c, e, r, Nat.le_of_ble_eq_true hb, rfl, h⟩
theorem full_congr {α : Type} : ∀ (d : Nat) (f g : Nat → Option α), (∀ j, j + 1 < 2 ^ d → f j = g j) → full d f = full d g := by
  intro d
  induction d with
  | zero => intro f g _; rfl
  | succ d ih =>
    intro f g hfg
    have hp : 0 < 2 ^ d := Nat.two_pow_pos d
    rw [Nat.pow_succ] at hfg
    simp only [full]
    rw [hfg 0 (by omega), ih _ _ fun j hj => hfg (2 * j + 1) (by omega), ih _ _ fun j hj => hfg (2 * j + 2) (by omega)]
def hP (b : Nat) : Bx (Option SOb → HT → (HT → Bool) → Bool) := Bool.rec (motive := fun _ => Bx (Option SOb → HT → (HT → Bool) → Bool)) (.mk fun _ _ _ => false) (nP 5 b) (Nat.ble (Nat.succ b) 32767)
def hpK (b : Nat) (o : Option SOb) (t : HT) (K : HT → Bool) : Bool := Bx.rec (motive := fun _ => Bool) (fun g => g o t K) (hP b)
theorem hpK_set {b : Nat} {o : Option SOb} {t : HT} {K : HT → Bool} (h : hpK b o t K = true) : b < 32767 ∧ K (nSet b o 5 t) = true := by
  unfold hpK hP at h
  cases hb : Nat.ble (Nat.succ b) 32767
  · rw [hb] at h; cases h
  · rw [hb, nP_eq] at h
    exact ⟨Nat.le_of_ble_eq_true hb, h⟩
theorem hpK_true {b : Nat} {o : SOb} {t : HT} {K : HT → Bool} (h : hpK b (some o) t K = true) : ∃ t', (∀ ρ n, instH ρ t' n = (instH ρ t n).put b (o.inst ρ)) ∧ K t' = true := by
  obtain ⟨h1, h2⟩ := hpK_set h
  exact ⟨_, fun ρ n => put_instH ρ h1 o, h2⟩
theorem hpK_kill {b : Nat} {t : HT} {K : HT → Bool} (h : hpK b none t K = true) : ∃ t', (∀ ρ n, instH ρ t' n = (instH ρ t n).kill b) ∧ K t' = true := by
  obtain ⟨h1, h2⟩ := hpK_set h
  exact ⟨_, fun ρ n => kill_instH ρ h1, h2⟩
abbrev KV := SV → HT → Nat → Bool
/-- A block more. -/
def pushK (ob : SOb) (v : SV) (t : HT) (n : Nat) (K : KV) : Bool := hpK n (some ob) t fun t => fN (Nat.succ n) fun n => K v t n
theorem pushK_true {ob : SOb} {v : SV} {t : HT} {n : Nat} {K : KV} (h : pushK ob v t n K = true) : ∃ t', (∀ ρ, instH ρ t' (n + 1) = (instH ρ t n).push (ob.inst ρ)) ∧ K v t' (n + 1) = true := by
  obtain ⟨h1, h2⟩ := hpK_set h
  exact ⟨_, fun ρ => push_instH ρ h1 ob, h2⟩
/-- Cells that a function tells. -/
def nTab (k : Nat) : (Nat → SV) → Nest k SV := Nat.rec (motive := fun k => (Nat → SV) → Nest k SV) (fun f => f 0) (fun k ih f => .mk (ih f) (ih fun j => f (8 ^ k + j)) (ih fun j => f (2 * 8 ^ k + j)) (ih fun j => f (3 * 8 ^ k + j)) (ih fun j => f (4 * 8 ^ k + j)) (ih fun j => f (5 * 8 ^ k + j)) (ih fun j => f (6 * 8 ^ k + j)) (ih fun j => f (7 * 8 ^ k + j))) k
theorem nTab_at : ∀ (k i : Nat) (f : Nat → SV), nAt i k (nTab k f) = f (i % 8 ^ k) := by
  intro k
  induction k with
  | zero => intro i f; rw [Nat.pow_zero, Nat.mod_one]; rfl
  | succ k ih =>
    intro i f
    rw [nAt_s, Nat.pow_succ, Nat.mod_mul]
    have hd : i / 8 ^ k % 8 < 8 := Nat.mod_lt _ (by omega)
    rw [show dig (i / 8 ^ k) = dig (i / 8 ^ k % 8) from dig_mod (by omega)]
    generalize i / 8 ^ k % 8 = q at hd
    match q, hd with
    | 0, _ => show nAt i k (nTab k _) = _; rw [ih]; rfl
    | 1, _ => show nAt i k (nTab k _) = _; rw [ih] <;> (congr 1; omega)
    | 2, _ => show nAt i k (nTab k _) = _; rw [ih] <;> (congr 1; omega)
    | 3, _ => show nAt i k (nTab k _) = _; rw [ih] <;> (congr 1; omega)
    | 4, _ => show nAt i k (nTab k _) = _; rw [ih] <;> (congr 1; omega)
    | 5, _ => show nAt i k (nTab k _) = _; rw [ih] <;> (congr 1; omega)
    | 6, _ => show nAt i k (nTab k _) = _; rw [ih] <;> (congr 1; omega)
    | 7, _ => show nAt i k (nTab k _) = _; rw [ih] <;> (congr 1; omega)
/-- A block's cells that stand in the text. -/
def tabC (l : List SV) : Cs := Bool.rec (motive := fun _ => Cs) (.ls l) (.a l.length (nTab 4 fun i => (l[i]?).getD .u)) (Nat.ble l.length 4096)
theorem tabC_toL (l : List SV) : (tabC l).toL = l := by
  unfold tabC
  cases h : Nat.ble l.length 4096
  · rfl
  · have := Nat.le_of_ble_eq_true h
    refine toL_ext rfl fun i hi => ?_
    rw [nTab_at, Nat.mod_eq_of_lt]
    have : (8 : Nat) ^ 4 = 4096 := rfl
    omega
end
end Go.Ev
