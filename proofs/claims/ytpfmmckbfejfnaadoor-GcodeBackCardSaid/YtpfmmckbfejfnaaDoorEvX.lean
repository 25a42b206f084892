/- The evaluator in a form that the kernel runs fast: strict, in continuations, no branch that is not taken is copied. -/
import Derived.Test.YtpfmmckbfejfnaaDoorEvW
namespace Go.Ev
open Go
set_option linter.unusedVariables false
set_option linter.unusedSimpArgs false
noncomputable section
def bnd {α : Type} (r : Option α) (K : α → Bool) : Bool := Option.rec false K r
theorem bnd_none {α : Type} (K : α → Bool) : bnd none K = false := rfl
theorem bnd_some {α : Type} (a : α) (K : α → Bool) : bnd (some a) K = K a := rfl
theorem bnd_true {α : Type} {r : Option α} {K : α → Bool} (h : bnd r K = true) : ∃ a, r = some a ∧ K a = true := by
  cases r with
  | none => cases h
  | some a => exact ⟨a, rfl, h⟩
/-! Forced values -/
def fN (n : Nat) (K : Nat → Bool) : Bool := Nat.rec (K 0) (fun m _ => K (Nat.succ m)) n
theorem fN_eq (n : Nat) (K : Nat → Bool) : fN n K = K n := by cases n <;> rfl
def fI (n : Int) (K : Int → Bool) : Bool := Int.rec (fun a => fN a fun b => K (.ofNat b)) (fun a => fN a fun b => K (.negSucc b)) n
theorem fI_eq (n : Int) (K : Int → Bool) : fI n K = K n := by
  cases n with
  | ofNat a => exact fN_eq a fun b => K (.ofNat b)
  | negSucc a => exact fN_eq a fun b => K (.negSucc b)
def fB (b : Bool) (K : Bool → Bool) : Bool := Bool.rec (K false) (K true) b
theorem fB_eq (b : Bool) (K : Bool → Bool) : fB b K = K b := by cases b <;> rfl
def fA (a : Option Addr) (K : Option Addr → Bool) : Bool :=
  Option.rec (K none) (fun x => Addr.rec (fun b o g => fN b fun b => fN o fun o => Option.rec (K (some ⟨b, o, none⟩)) (fun y => K (some ⟨b, o, some y⟩)) g) x) a
theorem fA_eq (a : Option Addr) (K : Option Addr → Bool) : fA a K = K a := by
  unfold fA
  cases a with
  | none => rfl
  | some x =>
    obtain ⟨b, o, g⟩ := x
    simp only [fN_eq]
    cases g <;> rfl
def f0 (v : Value) (K : Value → Bool) : Bool := match v with
  | .int k n => fI n fun n => K (.int k n)
  | .bool b => fB b fun b => K (.bool b)
  | .pointer a => fA a fun a => K (.pointer a)
  | .slice a l c => fA a fun a => fN l fun l => fN c fun c => K (.slice a l c)
  | v => K v
theorem f0_eq (v : Value) (K : Value → Bool) : f0 v K = K v := by
  unfold f0
  split <;> simp only [fI_eq, fB_eq, fA_eq, fN_eq]
def fL (l : List Value) : (List Value → Bool) → Bool := List.rec (fun K => K []) (fun v _ ih K => f0 v fun v => ih fun l => K (v :: l)) l
theorem fL_eq (l : List Value) : ∀ (K : List Value → Bool), fL l K = K l := by
  induction l with
  | nil => intro K; rfl
  | cons v l ih => intro K; show f0 v (fun v => fL l fun l => K (v :: l)) = _; rw [f0_eq, ih]
def f1 (v : Value) (K : Value → Bool) : Bool := match v with
  | .agg cs => fL cs.toList fun l => K (.agg ⟨l⟩)
  | v => f0 v K
theorem f1_eq (v : Value) (K : Value → Bool) : f1 v K = K v := by
  unfold f1
  split
  · rw [fL_eq]
  · rw [f0_eq]
def fLs (l : List Value) : (List Value → Bool) → Bool := List.rec (fun K => K []) (fun v _ ih K => f1 v fun v => ih fun l => K (v :: l)) l
theorem fLs_eq (l : List Value) : ∀ (K : List Value → Bool), fLs l K = K l := by
  induction l with
  | nil => intro K; rfl
  | cons v l ih => intro K; show f1 v (fun v => fLs l fun l => K (v :: l)) = _; rw [f1_eq, ih]
def fV (v : Value) (K : Value → Bool) : Bool := match v with
  | .int k n => fI n fun n => K (.int k n)
  | .bool b => Bool.rec (K (.bool false)) (K (.bool true)) b
  | .pointer a => fA a fun a => K (.pointer a)
  | .slice a l c => fA a fun a => fN l fun l => fN c fun c => K (.slice a l c)
  | .agg cs => fL cs.toList fun l => K (.agg ⟨l⟩)
  | .tuple cs => fLs cs.toList fun l => K (.tuple ⟨l⟩)
  | v => K v
theorem fV_eq (v : Value) (K : Value → Bool) : fV v K = K v := by
  unfold fV
  split
  case h_2 b => cases b <;> rfl
  all_goals first | rfl | simp only [fI_eq, fA_eq, fN_eq, fL_eq, fLs_eq]
/-! Trees -/
section
variable {α : Type}
theorem nz_eq {β : Type} (m : Nat) (a b : β) : (Nat.rec (motive := fun _ => β) a (fun _ _ => b) m : β) = cond (Nat.beq m 0) a b := by cases m <;> rfl
def fget (t : Tr α) : Nat → Option α :=
  Tr.rec (fun _ => none) (fun _ v _ ihl ihr k => Nat.rec v (fun j _ => Nat.rec (motive := fun _ => Option α) (ihl (Nat.div j 2)) (fun _ _ => ihr (Nat.div j 2)) (Nat.mod j 2)) k) t
theorem fget_eq (t : Tr α) : ∀ k, fget t k = t.get k := by
  induction t with
  | lf => intro k; cases k <;> rfl
  | nd l v r ihl ihr =>
    intro k
    cases k with
    | zero => rfl
    | succ j =>
      show (Nat.rec (motive := fun _ => Option α) (fget l (Nat.div j 2)) (fun _ _ => fget r (Nat.div j 2)) (Nat.mod j 2) : Option α) = cond ((j % 2).beq 0) (l.get (j / 2)) (r.get (j / 2))
      rw [nz_eq, ihl, ihr]; rfl
def getK (t : Tr α) : Nat → (Option α → Bool) → Bool :=
  Tr.rec (fun _ K => K none) (fun _ v _ ihl ihr k K => Nat.rec (K v) (fun j _ => Nat.rec (motive := fun _ => Bool) (ihl (Nat.div j 2) K) (fun _ _ => ihr (Nat.div j 2) K) (Nat.mod j 2)) k) t
theorem getK_eq (t : Tr α) : ∀ k K, getK t k K = K (t.get k) := by
  induction t with
  | lf => intro k K; cases k <;> rfl
  | nd l v r ihl ihr =>
    intro k K
    cases k with
    | zero => rfl
    | succ j =>
      show (Nat.rec (motive := fun _ => Bool) (getK l (Nat.div j 2) K) (fun _ _ => getK r (Nat.div j 2) K) (Nat.mod j 2) : Bool) = K (cond ((j % 2).beq 0) (l.get (j / 2)) (r.get (j / 2)))
      rw [nz_eq, ihl, ihr, show Nat.beq (Nat.mod j 2) 0 = (j % 2).beq 0 from rfl]
      cases (j % 2).beq 0 <;> rfl
/-! Rows -/
def nthK (l : List α) : Nat → (Option α → Bool) → Bool := List.rec (fun _ K => K none) (fun a _ ih n K => Nat.rec (K (some a)) (fun m _ => ih m K) n) l
theorem nthK_eq (l : List α) : ∀ n K, nthK l n K = K l[n]? := by
  induction l with
  | nil => intro n K; simp [nthK]
  | cons a l ih =>
    intro n K
    cases n with
    | zero => rfl
    | succ n => show nthK l n K = _; rw [ih]; simp
def dropK (n : Nat) : List α → (List α → Bool) → Bool := Nat.rec (fun l K => K l) (fun _ ih l K => List.rec (K []) (fun _ t _ => ih t K) l) n
theorem dropK_eq (n : Nat) : ∀ (l : List α) K, dropK n l K = K (l.drop n) := by
  induction n with
  | zero => intro l K; rfl
  | succ n ih =>
    intro l K
    cases l with
    | nil => rfl
    | cons a l => exact ih l K
def takeK (n : Nat) : List α → (List α → Bool) → Bool := Nat.rec (fun l K => K []) (fun _ ih l K => List.rec false (fun a t _ => ih t fun r => K (a :: r)) l) n
theorem takeK_eq (n : Nat) : ∀ (l : List α) K, takeK n l K = cond ((l.take n).length.beq n) (K (l.take n)) false := by
  induction n with
  | zero => intro l K; show K [] = _; simp
  | succ n ih =>
    intro l K
    cases l with
    | nil => simp [takeK]
    | cons a l =>
      show takeK n l (fun r => K (a :: r)) = _
      rw [ih, List.take_succ_cons, List.length_cons]
      have : ((List.take n l).length + 1).beq (n + 1) = (List.take n l).length.beq n := rfl
      rw [this]
def takeU (n : Nat) : List α → (List α → Bool) → Bool := Nat.rec (fun l K => K []) (fun _ ih l K => List.rec (K []) (fun a t _ => ih t fun r => K (a :: r)) l) n
theorem takeU_eq (n : Nat) : ∀ (l : List α) K, takeU n l K = K (l.take n) := by
  induction n with
  | zero => intro l K; show K [] = _; simp
  | succ n ih =>
    intro l K
    cases l with
    | nil => simp [takeU]
    | cons a l => show takeU n l (fun r => K (a :: r)) = _; rw [ih, List.take_succ_cons]
def setK (l : List α) : Nat → α → (List α → Bool) → Bool := List.rec (fun _ _ _ => false) (fun a t ih n v K => Nat.rec (K (v :: t)) (fun m _ => ih m v fun r => K (a :: r)) n) l
theorem setK_eq (l : List α) : ∀ n v K, setK l n v K = cond ((n + 1).ble l.length) (K (l.set n v)) false := by
  induction l with
  | nil => intro n v K; rfl
  | cons a l ih =>
    intro n v K
    cases n with
    | zero =>
      have : (0 + 1).ble (a :: l).length = true := by simp [ble_dec]
      rw [this]; rfl
    | succ n =>
      show setK l n v (fun r => K (a :: r)) = _
      rw [ih]
      have : (n + 1 + 1).ble (a :: l).length = (n + 1).ble l.length := by rw [List.length_cons, ble_dec, ble_dec]; simp
      rw [this, List.set_cons_succ]
def fput (f : Nat) : Tr α → Nat → Option α → (Tr α → Bool) → Bool :=
  Nat.rec (fun t _ _ K => K t) (fun _ ih t n v K => Tr.rec
    (Nat.rec (K (.nd .lf v .lf)) (fun k _ => Nat.rec (motive := fun _ => Bool) (ih .lf (Nat.div k 2) v fun l => K (.nd l none .lf)) (fun _ _ => ih .lf (Nat.div k 2) v fun r => K (.nd .lf none r)) (Nat.mod k 2)) n)
    (fun l x r _ _ => Nat.rec (K (.nd l v r)) (fun k _ => Nat.rec (motive := fun _ => Bool) (ih l (Nat.div k 2) v fun l => K (.nd l x r)) (fun _ _ => ih r (Nat.div k 2) v fun r => K (.nd l x r)) (Nat.mod k 2)) n) t) f
theorem fput_eq (f : Nat) : ∀ (t : Tr α) (n : Nat) (v : Option α) (K : Tr α → Bool), fput f t n v K = K (Tr.putF f t n v) := by
  induction f with
  | zero => intro t n v K; rfl
  | succ f ih =>
    intro t n v K
    cases n with
    | zero => cases t <;> rfl
    | succ k =>
      have e : Nat.beq (Nat.mod k 2) 0 = (k % 2).beq 0 := rfl
      cases t with
      | lf =>
        show (Nat.rec (motive := fun _ => Bool) (fput f .lf (Nat.div k 2) v fun l => K (.nd l none .lf)) (fun _ _ => fput f .lf (Nat.div k 2) v fun r => K (.nd .lf none r)) (Nat.mod k 2) : Bool) = K (cond ((k % 2).beq 0) (.nd (Tr.putF f .lf (k / 2) v) none .lf) (.nd .lf none (Tr.putF f .lf (k / 2) v)))
        rw [nz_eq, ih, ih, e]
        cases (k % 2).beq 0 <;> rfl
      | nd l x r =>
        show (Nat.rec (motive := fun _ => Bool) (fput f l (Nat.div k 2) v fun l => K (.nd l x r)) (fun _ _ => fput f r (Nat.div k 2) v fun r => K (.nd l x r)) (Nat.mod k 2) : Bool) = K (cond ((k % 2).beq 0) (.nd (Tr.putF f l (k / 2) v) x r) (.nd l x (Tr.putF f r (k / 2) v)))
        rw [nz_eq, ih, ih, e]
        cases (k % 2).beq 0 <;> rfl
def fPut (t : Tr α) (n : Nat) (v : Option α) (K : Tr α → Bool) : Bool := fput (Nat.succ n) t n v K
theorem fPut_eq (t : Tr α) (n : Nat) (v : Option α) (K : Tr α → Bool) : fPut t n v K = K (t.put n v) := fput_eq _ _ _ _ _
end
def oPut (H : Heap) (b : Nat) (o : Ob) (K : Heap → Bool) : Bool := Ob.rec (fun cs e r => fLs cs fun cs => fB r fun r => fPut H.t b (some ⟨cs, e, r⟩) fun t => K ⟨t, H.n⟩) o
theorem oPut_eq (H : Heap) (b : Nat) (o : Ob) (K : Heap → Bool) : oPut H b o K = K (H.put b o) := by
  obtain ⟨cs, e, r⟩ := o
  show fLs cs (fun cs => fB r fun r => fPut H.t b (some ⟨cs, e, r⟩) fun t => K ⟨t, H.n⟩) = _
  rw [fLs_eq, fB_eq, fPut_eq]; rfl
def oPush (H : Heap) (o : Ob) (K : Heap → Bool) : Bool := Ob.rec (fun cs e r => fLs cs fun cs => fB r fun r => fPut H.t H.n (some ⟨cs, e, r⟩) fun t => fN (Nat.succ H.n) fun n => K ⟨t, n⟩) o
theorem oPush_eq (H : Heap) (o : Ob) (K : Heap → Bool) : oPush H o K = K (H.push o) := by
  obtain ⟨cs, e, r⟩ := o
  show fLs cs (fun cs => fB r fun r => fPut H.t H.n (some ⟨cs, e, r⟩) fun t => fN (Nat.succ H.n) fun n => K ⟨t, n⟩) = _
  rw [fLs_eq, fB_eq, fPut_eq, fN_eq]; rfl
def oKill (H : Heap) (b : Nat) (K : Heap → Bool) : Bool := fPut H.t b none fun t => K ⟨t, H.n⟩
theorem oKill_eq (H : Heap) (b : Nat) (K : Heap → Bool) : oKill H b K = K (H.kill b) := fPut_eq _ _ _ _
/-- What is done to memory. -/
inductive HOp where
  | keep
  | push (o : Ob)
  | kpush (b : Nat) (o : Ob)
  | put (b : Nat) (o : Ob)
def HOp.on (H : Heap) : HOp → Heap
  | .keep => H
  | .push o => H.push o
  | .kpush b o => (H.kill b).push o
  | .put b o => H.put b o
def hopK (H : Heap) (h : HOp) (K : Heap → Bool) : Bool := HOp.rec (K H) (fun o => oPush H o K) (fun b o => fN b fun b => oKill H b fun H => oPush H o K) (fun b o => fN b fun b => oPut H b o K) h
theorem hopK_eq (H : Heap) (h : HOp) (K : Heap → Bool) : hopK H h K = K (h.on H) := by
  cases h with
  | keep => rfl
  | push o => exact oPush_eq _ _ _
  | kpush b o => show fN b (fun b => oKill H b fun H => oPush H o K) = _; rw [fN_eq, oKill_eq, oPush_eq]; rfl
  | put b o => show fN b (fun b => oPut H b o K) = _; rw [fN_eq, oPut_eq]; rfl
/-! Numbers -/
def kmax (k : IntKind) : Nat := IntKind.rec 127 32767 2147483647 9223372036854775807 255 65535 4294967295 18446744073709551615 k
theorem wrap_fit (k : IntKind) (z : Nat) (h : Nat.ble z (kmax k) = true) : k.wrap (.ofNat z) = .ofNat z := by
  have h := Nat.le_of_ble_eq_true h
  show k.wrap (z : Int) = (z : Int)
  cases k <;> simp only [kmax] at h <;> simp [IntKind.wrap, IntKind.bits, IntKind.signed] <;> omega
def kix (k : IntKind) : Nat := IntKind.rec 0 1 2 3 4 5 6 7 k
def keq (k j : IntKind) : Bool := Nat.beq (kix k) (kix j)
theorem keq_eq (k j : IntKind) : keq k j = (k == j) := by cases k <;> cases j <;> rfl
def sI (r : Option Value) (K : Value → Bool) : Bool := bnd r fun v => fV v K
theorem sI_eq (r : Option Value) (K : Value → Bool) : sI r K = bnd r K := by
  unfold sI
  cases r with
  | none => rfl
  | some v => exact fV_eq _ _
def nAdd (k : IntKind) (x y : Int) (K : Value → Bool) : Bool :=
  Int.rec (fun a => Int.rec (fun b => Bool.rec (motive := fun _ => Bool) (sI (ibin .add k (.ofNat a) (.ofNat b)) K) (fN (Nat.add a b) fun z => K (.int k (.ofNat z))) (Nat.ble (Nat.add a b) (kmax k))) (fun b => sI (ibin .add k (.ofNat a) (.negSucc b)) K) y)
    (fun a => sI (ibin .add k (.negSucc a) y) K) x
def nMul (k : IntKind) (x y : Int) (K : Value → Bool) : Bool :=
  Int.rec (fun a => Int.rec (fun b => Bool.rec (motive := fun _ => Bool) (sI (ibin .mul k (.ofNat a) (.ofNat b)) K) (fN (Nat.mul a b) fun z => K (.int k (.ofNat z))) (Nat.ble (Nat.mul a b) (kmax k))) (fun b => sI (ibin .mul k (.ofNat a) (.negSucc b)) K) y)
    (fun a => sI (ibin .mul k (.negSucc a) y) K) x
def nSub (k : IntKind) (x y : Int) (K : Value → Bool) : Bool :=
  Int.rec (fun a => Int.rec (fun b => Bool.rec (motive := fun _ => Bool) (sI (ibin .sub k (.ofNat a) (.ofNat b)) K) (Bool.rec (motive := fun _ => Bool) (sI (ibin .sub k (.ofNat a) (.ofNat b)) K) (fN (Nat.sub a b) fun z => K (.int k (.ofNat z))) (Nat.ble (Nat.sub a b) (kmax k))) (Nat.ble b a)) (fun b => sI (ibin .sub k (.ofNat a) (.negSucc b)) K) y)
    (fun a => sI (ibin .sub k (.negSucc a) y) K) x
def nCmp (op : BinOp) (f : Nat → Nat → Bool) (k : IntKind) (x y : Int) (K : Value → Bool) : Bool :=
  Int.rec (fun a => Int.rec (fun b => fB (f a b) fun t => K (.bool t)) (fun b => sI (ibin op k (.ofNat a) (.negSucc b)) K) y)
    (fun a => sI (ibin op k (.negSucc a) y) K) x
theorem nAdd_eq (k : IntKind) (x y : Int) (K : Value → Bool) : nAdd k x y K = bnd (ibin .add k x y) K := by
  cases x with
  | negSucc a => exact sI_eq _ _
  | ofNat a => cases y with
    | negSucc b => exact sI_eq _ _
    | ofNat b =>
      show (Bool.rec (motive := fun _ => Bool) (sI (ibin .add k (.ofNat a) (.ofNat b)) K) (fN (Nat.add a b) fun z => K (.int k (.ofNat z))) (Nat.ble (Nat.add a b) (kmax k)) : Bool) = _
      cases h : Nat.ble (Nat.add a b) (kmax k)
      · exact sI_eq _ _
      · simp only [fN_eq]
        have := wrap_fit k _ h
        simp only [ibin, bnd_some]
        show _ = K (.int k (k.wrap (Int.ofNat (a + b))))
        rw [show (a + b) = Nat.add a b from rfl, this]
theorem nMul_eq (k : IntKind) (x y : Int) (K : Value → Bool) : nMul k x y K = bnd (ibin .mul k x y) K := by
  cases x with
  | negSucc a => exact sI_eq _ _
  | ofNat a => cases y with
    | negSucc b => exact sI_eq _ _
    | ofNat b =>
      show (Bool.rec (motive := fun _ => Bool) (sI (ibin .mul k (.ofNat a) (.ofNat b)) K) (fN (Nat.mul a b) fun z => K (.int k (.ofNat z))) (Nat.ble (Nat.mul a b) (kmax k)) : Bool) = _
      cases h : Nat.ble (Nat.mul a b) (kmax k)
      · exact sI_eq _ _
      · simp only [fN_eq]
        have := wrap_fit k _ h
        simp only [ibin, bnd_some]
        show _ = K (.int k (k.wrap (Int.ofNat (a * b))))
        rw [show (a * b) = Nat.mul a b from rfl, this]
theorem nSub_eq (k : IntKind) (x y : Int) (K : Value → Bool) : nSub k x y K = bnd (ibin .sub k x y) K := by
  cases x with
  | negSucc a => exact sI_eq _ _
  | ofNat a => cases y with
    | negSucc b => exact sI_eq _ _
    | ofNat b =>
      show (Bool.rec (motive := fun _ => Bool) (sI (ibin .sub k (.ofNat a) (.ofNat b)) K) (Bool.rec (motive := fun _ => Bool) (sI (ibin .sub k (.ofNat a) (.ofNat b)) K) (fN (Nat.sub a b) fun z => K (.int k (.ofNat z))) (Nat.ble (Nat.sub a b) (kmax k))) (Nat.ble b a) : Bool) = _
      cases h0 : Nat.ble b a
      · exact sI_eq _ _
      show (Bool.rec (motive := fun _ => Bool) (sI (ibin .sub k (.ofNat a) (.ofNat b)) K) (fN (Nat.sub a b) fun z => K (.int k (.ofNat z))) (Nat.ble (Nat.sub a b) (kmax k)) : Bool) = _
      cases h : Nat.ble (Nat.sub a b) (kmax k)
      · exact sI_eq _ _
      · simp only [fN_eq]
        have := wrap_fit k _ h
        have hle := Nat.le_of_ble_eq_true h0
        simp only [ibin, bnd_some]
        rw [show (Int.ofNat a - Int.ofNat b) = Int.ofNat (Nat.sub a b) from by show (a : Int) - (b : Int) = ((a - b : Nat) : Int); omega, this]
theorem nCmp_eq (op : BinOp) (f : Nat → Nat → Bool) (hf : ∀ k a b, ibin op k (.ofNat a) (.ofNat b) = some (.bool (f a b))) (k : IntKind) (x y : Int) (K : Value → Bool) : nCmp op f k x y K = bnd (ibin op k x y) K := by
  cases x with
  | negSucc a => exact sI_eq _ _
  | ofNat a => cases y with
    | negSucc b => exact sI_eq _ _
    | ofNat b =>
      show fB (f a b) (fun t => K (.bool t)) = _
      rw [fB_eq, hf]; rfl
def oK (r : Option Value) (K : Value → Bool) (F : Bool) : Bool := Option.rec F K r
def nGen (op : BinOp) (k : IntKind) (x y : Int) (K : Value → Bool) (F : Bool) : Bool := oK (ibin op k x y) (fun v => fV v K) F
def nShift (op : BinOp) (k : IntKind) (x y : Int) (K : Value → Bool) (F : Bool) : Bool := oK (ishift op k x y) (fun v => fV v K) F
theorem nGen_eq (op : BinOp) (k : IntKind) (x y : Int) (K : Value → Bool) (F : Bool) : nGen op k x y K F = oK (ibin op k x y) K F := by
  unfold nGen
  cases ibin op k x y with
  | none => rfl
  | some v => exact fV_eq _ _
theorem nShift_eq (op : BinOp) (k : IntKind) (x y : Int) (K : Value → Bool) (F : Bool) : nShift op k x y K F = oK (ishift op k x y) K F := by
  unfold nShift
  cases ishift op k x y with
  | none => rfl
  | some v => exact fV_eq _ _
def nF (f : IntKind → Int → Int → (Value → Bool) → Bool) (k : IntKind) (x y : Int) (K : Value → Bool) (F : Bool) : Bool := f k x y K
def nLt (a b : Nat) : Bool := Nat.ble (Nat.succ a) b
def nNe (a b : Nat) : Bool := Bool.rec true false (Nat.beq a b)
def nBin (op : BinOp) : IntKind → Int → Int → (Value → Bool) → Bool → Bool := match op with
  | .add => nF nAdd
  | .sub => nF nSub
  | .mul => nF nMul
  | .eql => nF (nCmp .eql Nat.beq)
  | .neq => nF (nCmp .neq nNe)
  | .lss => nF (nCmp .lss nLt)
  | .leq => nF (nCmp .leq Nat.ble)
  | .gtr => nF (nCmp .gtr (fun a b => nLt b a))
  | .geq => nF (nCmp .geq (fun a b => Nat.ble b a))
  | .shl => nShift .shl
  | .shr => nShift .shr
  | op => nGen op
theorem nLt_dec (a b : Nat) : nLt a b = decide (a < b) := by
  show (Nat.ble (a + 1) b) = _
  rw [ble_dec]; rfl
theorem nBin_eq (op : BinOp) (k : IntKind) (x y : Int) (K : Value → Bool) (F : Bool) : nBin op k x y K F = oK (bif isShift op then ishift op k x y else ibin op k x y) K F := by
  cases op with
  | add => exact nAdd_eq _ _ _ _
  | sub => exact nSub_eq _ _ _ _
  | mul => exact nMul_eq _ _ _ _
  | eql =>
    refine nCmp_eq _ _ (fun k a b => ?_) _ _ _ _
    simp only [ibin, beq_dec]
    congr 2
    by_cases h : a = b
    · subst h; simp
    · simp [h]; omega
  | neq =>
    refine nCmp_eq _ _ (fun k a b => ?_) _ _ _ _
    have e : nNe a b = !(Nat.beq a b) := by unfold nNe; cases Nat.beq a b <;> rfl
    simp only [ibin, e, beq_dec]
    congr 2
    by_cases h : a = b
    · subst h; simp
    · simp [h, bne]; omega
  | lss =>
    refine nCmp_eq _ _ (fun k a b => ?_) _ _ _ _
    simp only [ibin, nLt_dec]
    congr 2
    simp
  | leq =>
    refine nCmp_eq _ _ (fun k a b => ?_) _ _ _ _
    simp only [ibin, ble_dec]
    congr 2
    simp
  | gtr =>
    refine nCmp_eq _ _ (fun k a b => ?_) _ _ _ _
    simp only [ibin, nLt_dec]
    congr 2
    simp
  | geq =>
    refine nCmp_eq _ _ (fun k a b => ?_) _ _ _ _
    simp only [ibin, ble_dec]
    congr 2
    simp
  | shl => exact nShift_eq _ _ _ _ _ _
  | shr => exact nShift_eq _ _ _ _ _ _
  | quo => exact nGen_eq _ _ _ _ _ _
  | rem => exact nGen_eq _ _ _ _ _ _
  | and => exact nGen_eq _ _ _ _ _ _
  | or => exact nGen_eq _ _ _ _ _ _
  | xor => exact nGen_eq _ _ _ _ _ _
  | andNot => exact nGen_eq _ _ _ _ _ _
end
end Go.Ev
