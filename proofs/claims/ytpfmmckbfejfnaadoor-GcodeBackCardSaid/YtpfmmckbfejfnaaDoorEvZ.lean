/- The fast evaluator: regions, code, pieces. -/
import Derived.Test.YtpfmmckbfejfnaaDoorEvY
namespace Go.Ev
open Go
set_option linter.unusedVariables false
set_option linter.unusedSimpArgs false
noncomputable section
theorem bnd_bnd {α β : Type} (r : Option α) (f : α → Option β) (K : β → Bool) : bnd r (fun a => bnd (f a) K) = bnd (match r with | some a => f a | none => none) K := by cases r <;> rfl
def nth {α : Type} (l : List α) : Nat → Option α := List.rec (fun _ => none) (fun a _ ih n => Nat.rec (some a) (fun m _ => ih m) n) l
theorem nth_eq {α : Type} (l : List α) : ∀ j, nth l j = l[j]? := by
  induction l with
  | nil => intro j; simp [nth]
  | cons a l ih =>
    intro j
    cases j with
    | zero => rfl
    | succ j => show nth l j = _; rw [ih]; simp
section
variable (P : Program) (T : Tab) (n : Nat)
def guardV (v : Option Value) (want : Bool) : Bool := match v with | some (.bool b) => b == want | _ => false
def guardB (l : List Oper) (tm : Tr Value) (p : Nat × Bool) : Bool := Option.rec false (fun o => Option.rec false (fun d => guardV (fget tm d) p.2) (Oper.dst o)) (nth l p.1)
def wantL (l : List Oper) (tm : Tr Value) (g : Option (Nat × Bool)) : Bool := Option.rec true (fun p => guardB l tm p) g
theorem wantL_eq (ops : Array Oper) (tm : Tr Value) (o : Oper) : wantL ops.toList tm o.guard = awanted ops tm o := by
  unfold awanted wantL
  cases o.guard with
  | none => rfl
  | some p =>
    obtain ⟨j, w⟩ := p
    show guardB ops.toList tm (j, w) = _
    unfold guardB
    rw [nth_eq]
    simp only [Array.getElem?_toList]
    cases ops[j]? with
    | none => rfl
    | some q =>
      cases hd : q.dst with
      | none => simp only [Option.bind, hd]
      | some d => simp only [Option.bind, hd, fget_eq]; rfl
def dstAt (l : List Oper) (j : Nat) : Option Tmp := match l[j]? with | some o => o.dst | none => none
def gV (v : Option Value) (w : Bool) (K1 K0 : Bool) : Bool := Option.rec K0 (fun v => match v with | .bool b => Bool.rec (Bool.rec K1 K0 w) (Bool.rec K0 K1 w) b | _ => K0) v
def wantK (l : List Oper) (tm : Tr Value) (g : Option (Nat × Bool)) (K1 K0 : Bool) : Bool :=
  Option.rec K1 (fun p => Prod.rec (fun j w => Option.rec K0 (fun d => getK tm d fun v => gV v w K1 K0) (dstAt l j)) p) g
theorem wantK_eq (ops : Array Oper) (tm : Tr Value) (o : Oper) (K1 K0 : Bool) : wantK ops.toList tm o.guard K1 K0 = cond (awanted ops tm o) K1 K0 := by
  unfold awanted
  cases o.guard with
  | none => rfl
  | some p =>
    obtain ⟨j, w⟩ := p
    show (Option.rec (motive := fun _ => Bool) K0 (fun d => getK tm d fun v => gV v w K1 K0) (dstAt ops.toList j) : Bool) = _
    unfold dstAt
    simp only [Array.getElem?_toList, getK_eq]
    cases ops[j]? with
    | none => rfl
    | some q =>
      simp only [Option.bind]
      cases q.dst with
      | none => rfl
      | some d =>
        simp only []
        cases tm.get d with
        | none => rfl
        | some v => cases v with
          | bool b => cases b <;> cases w <;> rfl
          | _ => rfl
abbrev CF := FuncId → Array Value → Heap → (Value → Heap → Bool) → Bool
def finK (dst : Option Tmp) (tm : Tr Value) (v : Value) (H : Heap) (K : St → Bool) : Bool := Option.rec (K ⟨tm, H⟩) (fun d => Bool.rec false (fput (Nat.succ d) tm d (some v) fun tm => K ⟨tm, H⟩) (Nat.ble (Nat.succ d) n)) dst
theorem finK_eq (dst : Option Tmp) (tm : Tr Value) (v : Value) (H : Heap) (K : St → Bool) : finK n dst tm v H K = bnd (fin n dst tm v H) K := by
  cases dst with
  | none => rfl
  | some d =>
    show (Bool.rec (motive := fun _ => Bool) false (fPut tm d (some v) fun tm => K ⟨tm, H⟩) (d.blt n) : Bool) = bnd (match (bif d.blt n then some (tm.put d (some v)) else none) with | some tm' => some (⟨tm', H⟩ : St) | none => none) K
    cases d.blt n
    · rfl
    · simp only [fPut_eq]; rfl
def resK (cf : CF) (dst : Option Tmp) (tm : Tr Value) (K : St → Bool) : RK := fun r H => Res.rec (fun v => finK n dst tm v H K) (finK n dst tm undef H K) (fun f args => cf f args H fun v H => finK n dst tm v H K) r
def step1K (cf : CF) (l : List Oper) (o : Oper) (s : St) (K : St → Bool) : Bool :=
  St.rec (fun tm H => wantK l tm o.guard (opH o.op P T tm o H (resK n cf o.dst tm K)) (finK n o.dst tm undef H K)) s
variable {callf : FuncId → Array Value → Heap → Option (Value × Heap)} {cf : CF}
def CFOk (cf : CF) (callf : FuncId → Array Value → Heap → Option (Value × Heap)) : Prop := ∀ f a H K, cf f a H K = bnd (callf f a H) fun p => K p.1 p.2
theorem step1K_eq (hc : CFOk cf callf) (ops : Array Oper) (o : Oper) (s : St) (K : St → Bool) : step1K P T n cf ops.toList o s K = bnd (step1 P T n callf ops o s) K := by
  obtain ⟨tm, H⟩ := s
  show wantK ops.toList tm o.guard (opH o.op P T tm o H (resK n cf o.dst tm K)) (finK n o.dst tm undef H K) = _
  unfold step1
  generalize hs : (⟨tm, H⟩ : St) = s
  have e1 : tm = s.tm := by rw [← hs]
  have e2 : H = s.H := by rw [← hs]
  rw [e1, e2]
  rw [wantK_eq, finK_eq, opH_eq]
  cases awanted ops s.tm o
  · rfl
  · simp only [cond_true]
    cases aop P T s.tm o s.H with
    | none => rfl
    | some p =>
      obtain ⟨r, H⟩ := p
      cases r with
      | val v => exact finK_eq _ _ _ _ _ _
      | skip => exact finK_eq _ _ _ _ _ _
      | enter f args =>
        show cf f args H (fun v H => finK n o.dst s.tm v H K) = bnd (match callf f args H with | some (v, H') => fin n o.dst s.tm v H' | none => none) K
        rw [hc]
        cases callf f args H with
        | none => rfl
        | some p => exact finK_eq _ _ _ _ _ _
def opsK (cf : CF) (l : List Oper) (r : List Oper) : St → (St → Bool) → Bool := List.rec (fun s K => K s) (fun o _ ih s K => step1K P T n cf l o s fun s => ih s K) r
theorem opsK_eq (hc : CFOk cf callf) (ops : Array Oper) (r : List Oper) : ∀ s K, opsK P T n cf ops.toList r s K = bnd (evOps P T n callf ops r s) K := by
  induction r with
  | nil => intro s K; rfl
  | cons o r ih =>
    intro s K
    show step1K P T n cf ops.toList o s (fun s => opsK P T n cf ops.toList r s K) = _
    rw [step1K_eq P T n hc]
    simp only [evOps]
    cases step1 P T n callf ops o s with
    | none => rfl
    | some s' => exact ih s' K
def traceK (cf : CF) (l : List Oper) (r : List Oper) : St → (List St → Bool) → Bool := List.rec (fun s K => K [s]) (fun o _ ih s K => step1K P T n cf l o s fun s' => ih s' fun r => K (s :: r)) r
theorem traceK_eq (hc : CFOk cf callf) (ops : Array Oper) (r : List Oper) : ∀ s K, traceK P T n cf ops.toList r s K = bnd (evTrace P T n callf ops r s) K := by
  induction r with
  | nil => intro s K; rfl
  | cons o r ih =>
    intro s K
    show step1K P T n cf ops.toList o s (fun s' => traceK P T n cf ops.toList r s' fun r => K (s :: r)) = _
    rw [step1K_eq P T n hc]
    simp only [evTrace]
    cases step1 P T n callf ops o s with
    | none => rfl
    | some s' =>
      show traceK P T n cf ops.toList r s' (fun r => K (s :: r)) = _
      rw [ih]
      simp only []
      cases evTrace P T n callf ops r s' <;> rfl
def stLoad (l : List St) (j : Nat) (s : St) (t : TypeId) (a : Operand) (K : Bool) : Bool :=
  evK s.tm a fun v => loadK T t v s.H fun u => nthK l j fun s1 => bnd s1 fun s1 => nthK l (Nat.succ j) fun s2 => bnd s2 fun s2 => loadK T t v s1.H fun u1 => loadK T t v s2.H fun u2 => Bool.rec false (Bool.rec false K (veq u2 u)) (veq u1 u)
def stOp (l : List St) (j : Nat) (s : St) (o : Op) (K : Bool) : Bool := match o with
  | .load t a => stLoad T l j s t a K
  | .convert sd dd a => cond (match aeval s.tm a with
        | some v => match aconvert T sd dd v s.H, l[j]?, l[j + 1]? with
          | some u, some s1, some s2 => match aconvert T sd dd v s1.H, aconvert T sd dd v s2.H with
            | some u1, some u2 => veq u1 u && veq u2 u
            | _, _ => false
          | _, _, _ => false
        | none => false) K false
  | _ => false
def steadyF (ops : List Oper) (l : List St) (p : Nat × Nat) (K : Bool) : Bool :=
  nthK l p.1 fun s => bnd s fun s => bnd (nth ops p.1) fun o => wantK ops s.tm o.guard (stOp T l p.2 s o.op K) K
theorem steadyF_eq (ops : Array Oper) (l : List St) (p : Nat × Nat) (K : Bool) : steadyF T ops.toList l p K = cond (steady T ops l p) K false := by
  unfold steadyF steady
  rw [nthK_eq, nth_eq]
  simp only [Array.getElem?_toList]
  cases l[p.1]? with
  | none => rfl
  | some s => cases ops[p.1]? with
    | none => rfl
    | some o =>
      simp only [bnd_some]
      rw [wantK_eq]
      cases awanted ops s.tm o
      · rfl
      · simp only [cond_true]
        generalize o.op = op
        cases op with
        | load t a =>
          show stLoad T l p.2 s t a K = _
          simp only [lookArg, alook]
          unfold stLoad
          rw [evK_eq]
          simp only [loadK_eq, nthK_eq]
          cases aeval s.tm a with
          | none => rfl
          | some v =>
            simp only [bnd_some]
            cases aload T t v s.H with
            | none => rfl
            | some u =>
              simp only [bnd_some]
              rw [show p.2.succ = p.2 + 1 from rfl]
              cases l[p.2]? with
              | none => rfl
              | some s1 => cases l[p.2 + 1]? with
                | none => rfl
                | some s2 =>
                  simp only [bnd_some]
                  cases aload T t v s1.H with
                  | none => rfl
                  | some u1 => cases aload T t v s2.H with
                    | none => rfl
                    | some u2 =>
                      simp only [bnd_some]
                      cases veq u1 u <;> cases veq u2 u <;> rfl
        | _ => rfl
def allF (T : Tab) (ops : List Oper) (l : List St) (K : Bool) (ps : List (Nat × Nat)) : Bool := List.rec K (fun p _ ih => steadyF T ops l p ih) ps
theorem allF_eq (ops : Array Oper) (l : List St) (K : Bool) (ps : List (Nat × Nat)) : allF T ops.toList l K ps = cond (ps.all (steady T ops l)) K false := by
  induction ps with
  | nil => rfl
  | cons p ps ih =>
    show steadyF T ops.toList l p (allF T ops.toList l K ps) = _
    rw [steadyF_eq, ih, List.all_cons]
    cases steady T ops l p <;> rfl
def lastO {α : Type} (l : List α) : Option α := List.rec none (fun a r ih => List.rec (some a) (fun _ _ _ => ih) r) l
theorem lastO_eq {α : Type} (l : List α) : lastO l = l.getLast? := by
  induction l with
  | nil => rfl
  | cons a l ih =>
    cases l with
    | nil => rfl
    | cons b l => show lastO (b :: l) = _; rw [ih]; simp [List.getLast?_cons]
def looseK (cf : CF) (ops : Array Oper) (s : St) (K : St → Bool) (ps : List (Nat × Nat)) : Bool :=
  List.rec (opsK P T n cf ops.toList ops.toList s K) (fun _ _ _ => traceK P T n cf ops.toList ops.toList s fun l => allF T ops.toList l (bnd (lastO l) K) ps) ps
def regionK (cf : CF) (ops : Array Oper) (draw : Bool) (s : St) (K : St → Bool) : Bool := Bool.rec (opsK P T n cf ops.toList ops.toList s K) (looseK P T n cf ops s K (loose T ops)) draw
theorem regionK_eq (hc : CFOk cf callf) (ops : Array Oper) (draw : Bool) (s : St) (K : St → Bool) : regionK P T n cf ops draw s K = bnd (evRegion P T n callf ops draw s) K := by
  unfold evRegion
  cases draw with
  | false => exact opsK_eq P T n hc ops _ s K
  | true =>
    show looseK P T n cf ops s K (loose T ops) = _
    unfold looseK
    simp only [cond_true]
    cases loose T ops with
    | nil => exact opsK_eq P T n hc ops _ s K
    | cons p ps =>
      show traceK P T n cf ops.toList ops.toList s (fun l => allF T ops.toList l (bnd (lastO l) K) (p :: ps)) = _
      rw [traceK_eq P T n hc]
      simp only []
      cases evTrace P T n callf ops ops.toList s with
      | none => rfl
      | some l =>
        simp only [bnd_some, allF_eq, lastO_eq]
        cases (p :: ps).all (steady T ops l) <;> rfl
end
/-! Calls and code -/
abbrev KX := Xt → St → Bool
abbrev IH := Nat → Code → St → KX → Bool
def initK (l : List Value) : Nat → Tr Value → (Tr Value → Bool) → Bool := List.rec (fun _ t K => K t) (fun v _ ih k t K => fPut t k (some v) fun t => fN (Nat.succ k) fun k => ih k t K) l
theorem initK_eq (l : List Value) : ∀ k t K, initK l k t K = K (initTm.go l k t) := by
  induction l with
  | nil => intro k t K; rfl
  | cons v l ih =>
    intro k t K
    show fPut t k (some v) (fun t => fN (Nat.succ k) fun k => initK l k t K) = _
    rw [fPut_eq, fN_eq, ih]; rfl
def rv (T : Tab) (tm : Tr Value) (H : Heap) (r : ResultVar) (K : Value → Bool) : Bool := match r with
  | .tmp t => kTmp tm t K
  | .cell a t => kTmp tm a fun p => loadK T t p H K
def resL (T : Tab) (tm : Tr Value) (H : Heap) (l : List ResultVar) : (List Value → Bool) → Bool := List.rec (fun K => K []) (fun r _ ih K => rv T tm H r fun v => ih fun l => K (v :: l)) l
theorem kTmp_eq (tm : Tr Value) (t : Nat) (K : Value → Bool) : kTmp tm t K = K ((tm.get t).getD undef) := by
  unfold kTmp
  rw [getK_eq]
  cases tm.get t <;> rfl
theorem resL_eq (T : Tab) (tm : Tr Value) (H : Heap) (l : List ResultVar) : ∀ K, resL T tm H l K = bnd (results1 T tm H l) K := by
  induction l with
  | nil => intro K; rfl
  | cons r l ih =>
    intro K
    show rv T tm H r (fun v => resL T tm H l fun l => K (v :: l)) = _
    cases r with
    | tmp t =>
      simp only [rv, kTmp_eq, ih, results1]
      cases results1 T tm H l <;> rfl
    | cell a t =>
      simp only [rv, kTmp_eq, loadK_eq, results1]
      cases aload T t ((tm.get a).getD undef) H with
      | none => rfl
      | some v =>
        simp only [bnd_some]
        rw [ih]
        cases results1 T tm H l <;> rfl
def tupK (l : List Value) (K : Value → Bool) : Bool := match l with
  | [v] => K v
  | l => K (.tuple ⟨l⟩)
def retK (T : Tab) (rs : Array ResultVar) (s : St) (K : Value → Heap → Bool) : Bool := resL T s.tm s.H rs.toList fun l => tupK l fun v => K v s.H
theorem retK_eq (T : Tab) (rs : Array ResultVar) (s : St) (K : Value → Heap → Bool) : retK T rs s K = bnd (aresults T s.tm s.H rs) fun v => K v s.H := by
  unfold retK aresults
  rw [resL_eq]
  cases results1 T s.tm s.H rs.toList with
  | none => rfl
  | some l =>
    simp only [bnd_some]
    cases l with
    | nil => rfl
    | cons v l => cases l <;> rfl
def xtK (x : Xt) (a : Bool) (b : Bool) (c : Nat → Bool) : Bool := Xt.rec a b c x
def cfBody (ih : IH) (T : Tab) (args : Array Value) (H : Heap) (K : Value → Heap → Bool) (fn : Func) (c : Code) : Bool :=
  fN (args.size + (fn.ntmps - args.size)) fun n => initK args.toList 0 .lf fun tm => ih n c ⟨tm, H⟩ fun x s => xtK x (retK T fn.results s K) (retK T fn.results s K) (fun _ => false)
def cfFn (ih : IH) (T : Tab) (args : Array Value) (H : Heap) (K : Value → Heap → Bool) (fn : Func) : Bool := bnd fn.body fun c => cfBody ih T args H K fn c
def cfK (T : Tab) (ih : IH) : CF := fun f args H K => Option.rec (bnd (T.fn f) fun fn => cfFn ih T args H K fn) (fun v => K v H) (T.orc f args.toList)
abbrev CH := Program → Tab → IH → Nat → St → KX → Bool
def cSkip : CH := fun P T ih n s K => K .normal s
def cRet : CH := fun P T ih n s K => K .ret s
def cExit (i : Nat) : CH := fun P T ih n s K => K (.exit i) s
def cRegion (ops : Array Oper) (draw : Bool) : CH := fun P T ih n s K => regionK P T n (cfK T ih) ops draw s fun s => K .normal s
def cSeq (a b : Code) : CH := fun P T ih n s K => ih n a s fun x s => xtK x (ih n b s K) (K .ret s) (fun i => K (.exit i) s)
def cCondV (a b : Code) (ih : IH) (n : Nat) (s : St) (K : KX) (v : Value) : Bool := match v with
  | .bool t => Bool.rec (ih n b s K) (ih n a s K) t
  | _ => false
def cCond (x : Operand) (a b : Code) : CH := fun P T ih n s K => evK s.tm x fun v => cCondV a b ih n s K v
def cBlock (id : Nat) (c : Code) : CH := fun P T ih n s K => ih n c s fun x s => xtK x (K .normal s) (K .ret s) (fun i => cond (Nat.beq i id) (K .normal s) (K (.exit i) s))
def cLoop (c : Code) : CH := fun P T ih n s K => ih n c s fun x s => xtK x (ih n (.loop c) s K) (K .ret s) (fun i => K (.exit i) s)
def cScope (c : Code) : CH := fun P T ih n s K => ih n c s K
def cNo : CH := fun P T ih n s K => false
def cH (c : Code) : CH := match c with
  | .skip => cSkip
  | .label _ => cSkip
  | .ret => cRet
  | .exit i => cExit i
  | .region _ ops draw => cRegion ops draw
  | .seq a b => cSeq a b
  | .cond x a b => cCond x a b
  | .block id c => cBlock id c
  | .loop c => cLoop c
  | .scope c => cScope c
  | _ => cNo
def evF (P : Program) (T : Tab) (k : Nat) : IH := Nat.rec (fun _ _ _ _ => false) (fun _ ih n c s K => cH c P T ih n s K) k
theorem cfK_eq (P : Program) (T : Tab) (k : Nat) (h : ∀ n c s K, evF P T k n c s K = bnd (evCode P T k n c s) fun p => K p.1 p.2) : CFOk (cfK T (evF P T k)) (evCall P T k) := by
  intro f args H K
  unfold cfK evCall
  cases T.orc f args.toList with
  | some v => rfl
  | none =>
    show bnd (T.fn f) _ = bnd (evBody P T k f args H) _
    rw [evCall_eq]
    cases T.fn f with
    | none => rfl
    | some fn =>
      simp only [bnd_some]
      unfold cfFn
      cases fn.body with
      | none => rfl
      | some c =>
        simp only [bnd_some]
        unfold cfBody
        rw [fN_eq, initK_eq, h]
        show _ = bnd (match evCode P T k (args.size + (fn.ntmps - args.size)) c ⟨initTm.go args.toList 0 .lf, H⟩ with
          | some (.normal, s') => (match aresults T s'.tm s'.H fn.results with | some v => some (v, s'.H) | none => none)
          | some (.ret, s') => (match aresults T s'.tm s'.H fn.results with | some v => some (v, s'.H) | none => none)
          | _ => none) fun p => K p.1 p.2
        cases evCode P T k (args.size + (fn.ntmps - args.size)) c ⟨initTm.go args.toList 0 .lf, H⟩ with
        | none => rfl
        | some p =>
          obtain ⟨x, s⟩ := p
          cases x with
          | normal => show retK T fn.results s K = _; rw [retK_eq]; simp only []; cases aresults T s.tm s.H fn.results <;> rfl
          | ret => show retK T fn.results s K = _; rw [retK_eq]; simp only []; cases aresults T s.tm s.H fn.results <;> rfl
          | exit i => rfl
theorem evF_eq (P : Program) (T : Tab) (k : Nat) : ∀ n c s K, evF P T k n c s K = bnd (evCode P T k n c s) fun p => K p.1 p.2 := by
  induction k with
  | zero => intro n c s K; simp only [evCode]; rfl
  | succ k ih =>
    intro n c s K
    cases c with
    | skip => rfl
    | label l => rfl
    | ret => rfl
    | exit i => rfl
    | region id ops draw =>
      show regionK P T n (cfK T (evF P T k)) ops draw s (fun s => K .normal s) = _
      rw [regionK_eq P T n (cfK_eq P T k ih), evCode_region]
      cases evRegion P T n (evCall P T k) ops draw s <;> rfl
    | seq a b =>
      show evF P T k n a s (fun x s => xtK x (evF P T k n b s K) (K .ret s) (fun i => K (.exit i) s)) = _
      rw [ih]
      simp only [evCode]
      cases evCode P T k n a s with
      | none => rfl
      | some p =>
        obtain ⟨x, s'⟩ := p
        cases x with
        | normal => exact ih n b s' K
        | ret => rfl
        | exit i => rfl
    | cond x a b =>
      show evK s.tm x (fun v => cCondV a b (evF P T k) n s K v) = _
      rw [evK_eq]
      simp only [evCode]
      cases aeval s.tm x with
      | none => rfl
      | some v => cases v with
        | bool t => cases t <;> exact ih n _ s K
        | _ => rfl
    | block id c =>
      show evF P T k n c s (fun x s => xtK x (K .normal s) (K .ret s) (fun i => cond (Nat.beq i id) (K .normal s) (K (.exit i) s))) = _
      rw [ih]
      simp only [evCode]
      cases evCode P T k n c s with
      | none => rfl
      | some p =>
        obtain ⟨x, s'⟩ := p
        cases x with
        | normal => rfl
        | ret => rfl
        | exit i =>
          show cond (Nat.beq i id) _ _ = _
          simp only []
          cases i.beq id <;> rfl
    | loop c =>
      show evF P T k n c s (fun x s => xtK x (evF P T k n (.loop c) s K) (K .ret s) (fun i => K (.exit i) s)) = _
      rw [ih]
      simp only [evCode]
      cases evCode P T k n c s with
      | none => rfl
      | some p =>
        obtain ⟨x, s'⟩ := p
        cases x with
        | normal => exact ih n (.loop c) s' K
        | ret => rfl
        | exit i => rfl
    | scope c =>
      show evF P T k n c s K = _
      rw [ih]
      simp only [evCode]
    | _ => simp only [evCode]; rfl
def rdF (P : Program) (T : Tab) (k n : Nat) (c : Code) (j : Nat) : St → (St → Bool) → Bool := Nat.rec (fun s K => K s) (fun _ ih s K => evF P T k n c s fun x s => xtK x (ih s K) false (fun _ => false)) j
theorem rdF_eq (P : Program) (T : Tab) (k n : Nat) (c : Code) (j : Nat) : ∀ s K, rdF P T k n c j s K = bnd (evRounds P T k n c j s) K := by
  induction j with
  | zero => intro s K; rfl
  | succ j ih =>
    intro s K
    show evF P T k n c s (fun x s => xtK x (rdF P T k n c j s K) false (fun _ => false)) = _
    rw [evF_eq]
    simp only [evRounds]
    cases evCode P T k n c s with
    | none => rfl
    | some p =>
      obtain ⟨x, s'⟩ := p
      cases x with
      | normal => exact ih s' K
      | ret => rfl
      | exit i => rfl
/-! Pieces, fast (`tt` and not `true`: the kernel asks `f = true` by its full reduction, which keeps every step) -/
def tt : Bool := true
end
noncomputable section
def fpR (P : Program) (T : Tab) (k n : Nat) (c : Code) (j : Nat) (s : St) (l : List Value) (bs : List (Nat × Ob)) (N : Nat) : Bool := rdF P T k n c j s fun s => sameSt n l bs N s
def fpC (P : Program) (T : Tab) (k n : Nat) (c : Code) (s : St) (l : List Value) (bs : List (Nat × Ob)) (N : Nat) : Bool := evF P T k n c s fun x s => xtK x (sameSt n l bs N s) false (fun _ => false)
def fpE (P : Program) (T : Tab) (k n : Nat) (c : Code) (s : St) (id : Nat) (l : List Value) (bs : List (Nat × Ob)) (N : Nat) : Bool := evF P T k n c s fun x s => xtK x false false (fun j => cond (Nat.beq j id) (sameSt n l bs N s) false)
def trueV (v : Value) : Bool := match v with | .bool b => b | _ => false
def fpEnd (P : Program) (T : Tab) (k n : Nat) (c : Code) (s : St) (rs : Array ResultVar) : Bool := evF P T k n c s fun x s => xtK x (retK T rs s fun v _ => trueV v) (retK T rs s fun v _ => trueV v) (fun _ => false)
section
variable {P : Program} {T : Tab} {k n j id : Nat} {c : Code} {s : St} {l : List Value} {bs : List (Nat × Ob)} {N : Nat} {rs : Array ResultVar}
theorem fpR_ok (h : fpR P T k n c j s l bs N = tt) : pieceR n l bs N (evRounds P T k n c j s) = true := by
  change _ = true at h
  unfold fpR at h
  rw [rdF_eq] at h
  obtain ⟨s', h1, h2⟩ := bnd_true h
  rw [h1]; exact h2
theorem fpC_ok (h : fpC P T k n c s l bs N = tt) : pieceC n l bs N (evCode P T k n c s) = true := by
  change _ = true at h
  unfold fpC at h
  rw [evF_eq] at h
  obtain ⟨p, h1, h2⟩ := bnd_true h
  rw [h1]
  obtain ⟨x, s'⟩ := p
  cases x with
  | normal => exact h2
  | ret => cases h2
  | exit i => cases h2
theorem fpE_ok (h : fpE P T k n c s id l bs N = tt) : pieceE n id l bs N (evCode P T k n c s) = true := by
  change _ = true at h
  unfold fpE at h
  rw [evF_eq] at h
  obtain ⟨p, h1, h2⟩ := bnd_true h
  rw [h1]
  obtain ⟨x, s'⟩ := p
  cases x with
  | normal => cases h2
  | ret => cases h2
  | exit i =>
    change cond (Nat.beq i id) (sameSt n l bs N s') false = true at h2
    show (i.beq id && sameSt n l bs N s') = true
    cases hb : i.beq id
    · rw [hb] at h2; cases h2
    · rw [hb] at h2; exact h2
theorem fpEnd_ok (h : fpEnd P T k n c s rs = tt) : endB T rs (evCode P T k n c s) = true := by
  change _ = true at h
  unfold fpEnd at h
  rw [evF_eq] at h
  obtain ⟨p, h1, h2⟩ := bnd_true h
  rw [h1]
  obtain ⟨x, s'⟩ := p
  have key : retK T rs s' (fun v _ => trueV v) = true → (match aresults T s'.tm s'.H rs with | some (.bool true) => true | _ => false) = true := by
    intro h3
    rw [retK_eq] at h3
    obtain ⟨v, h4, h5⟩ := bnd_true h3
    rw [h4]
    cases v <;> first | (simp only [trueV] at h5; subst h5; rfl) | cases h5
  cases x with
  | normal => exact key h2
  | ret => exact key h2
  | exit i => cases h2
end
end
end Go.Ev
