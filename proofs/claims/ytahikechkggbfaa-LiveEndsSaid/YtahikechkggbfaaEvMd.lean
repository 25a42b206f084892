/- Memory under other names: code, calls, loops. What a small memory shows holds in each memory that it stands for a part of. -/
import Derived.Test.YtahikechkggbfaaEvMc
namespace Go.Ev
open Go
set_option linter.unusedVariables false
set_option linter.unusedSimpArgs false
/-! One renaming behind another -/
def Em.comp (f e : Em) : Em := fun b => match f b with | none => none | some none => some none | some (some c) => e c
theorem RN.comp {f e : Em} {v w : Value} (h : RN f v w) : ∀ {v' : Value}, RN e w v' → RN (f.comp e) v v' := by
  induction h with
  | same hp => intro v' k; cases k.plain_eq hp; exact .same hp
  | ptr h1 => intro v' k; cases k with
    | same hp => simp [plain] at hp
    | ptr h2 => exact .ptr (by simp only [Em.comp, h1, h2])
  | slice h1 => intro v' k; cases k with
    | same hp => simp [plain] at hp
    | slice h2 => exact .slice (by simp only [Em.comp, h1, h2])
    | nils h2 hc => exact .nils (by simp only [Em.comp, h1, h2]) hc
  | nils h1 hc => intro v' k; cases k.plain_eq rfl; exact .nils (by simp only [Em.comp, h1]) hc
  | agg hs _ ih => intro v' k; cases k with
    | same hp => simp [plain] at hp
    | agg hs2 h2 => exact .agg (hs.trans hs2) fun i h3 h4 => ih i h3 (by omega) (h2 i (by omega) h4)
  | tuple hs _ ih => intro v' k; cases k with
    | same hp => simp [plain] at hp
    | tuple hs2 h2 => exact .tuple (hs.trans hs2) fun i h3 h4 => ih i h3 (by omega) (h2 i (by omega) h4)
  | func hs _ ht _ ih ih' => intro v' k; cases k with
    | same hp => simp [plain] at hp
    | func hs2 h2 ht2 k2 => exact .func (hs.trans hs2) (fun i h3 h4 => ih i h3 (by omega) (h2 i (by omega) h4)) (ht.trans ht2) fun i h3 h4 => ih' i h3 (by omega) (k2 i (by omega) h4)
  | iface _ ih => intro v' k; cases k with
    | same hp => simp [plain] at hp
    | iface h2 => exact .iface (ih h2)
theorem RNs.comp {f e : Em} {l m n : List Value} (h : RNs f l m) (k : RNs e m n) : RNs (f.comp e) l n :=
  ⟨h.1.trans k.1, fun i x hx => by
    obtain ⟨y, hy, h2⟩ := h.2 i x hx
    obtain ⟨z, hz, k2⟩ := k.2 i y hy
    exact ⟨z, hz, h2.comp k2⟩⟩
theorem RN.factor {f e g : Em} (hfe : ∀ b x, f b = some x → g b = match x with | none => some none | some c => e c) {x w : Value} (h : RN f x w) : ∀ {v' : Value}, RN g x v' → RN e w v' := by
  induction h with
  | same hp => intro v' k; cases k.plain_eq hp; exact .same hp
  | ptr h1 => intro v' k; cases k with
    | same hp => simp [plain] at hp
    | ptr h2 => exact .ptr (by have := hfe _ _ h1; rw [h2] at this; exact this.symm)
  | slice h1 => intro v' k; cases k with
    | same hp => simp [plain] at hp
    | slice h2 => exact .slice (by have := hfe _ _ h1; rw [h2] at this; exact this.symm)
    | nils h2 hc => exact .nils (by have := hfe _ _ h1; rw [h2] at this; exact this.symm) hc
  | nils h1 hc => intro v' k; cases k with
    | same hp => simp [plain] at hp
    | slice h2 => have := hfe _ _ h1; rw [h2] at this; cases this
    | nils h2 hc => exact .same rfl
  | agg hs _ ih => intro v' k; cases k with
    | same hp => simp [plain] at hp
    | agg hs2 h2 => exact .agg (hs.symm.trans hs2) fun i h3 h4 => ih i (by omega) h3 (h2 i (by omega) h4)
  | tuple hs _ ih => intro v' k; cases k with
    | same hp => simp [plain] at hp
    | tuple hs2 h2 => exact .tuple (hs.symm.trans hs2) fun i h3 h4 => ih i (by omega) h3 (h2 i (by omega) h4)
  | func hs _ ht _ ih ih' => intro v' k; cases k with
    | same hp => simp [plain] at hp
    | func hs2 h2 ht2 k2 => exact .func (hs.symm.trans hs2) (fun i h3 h4 => ih i (by omega) h3 (h2 i (by omega) h4)) (ht.symm.trans ht2) fun i h3 h4 => ih' i (by omega) h3 (k2 i (by omega) h4)
  | iface _ ih => intro v' k; cases k with
    | same hp => simp [plain] at hp
    | iface h2 => exact .iface (ih h2)
theorem RNs.factor {f e g : Em} (hfe : ∀ b x, f b = some x → g b = match x with | none => some none | some c => e c) {l m n : List Value} (h : RNs f l m) (k : RNs g l n) : RNs e m n :=
  ⟨h.1.symm.trans k.1, fun i y hy => by
    have hi : i < l.length := by rw [h.1]; exact (List.getElem?_eq_some_iff.1 hy).1
    obtain ⟨y', hy', h2⟩ := h.2 i _ (List.getElem?_eq_getElem hi)
    obtain ⟨z, hz, k2⟩ := k.2 i _ (List.getElem?_eq_getElem hi)
    rw [hy] at hy'; cases hy'
    exact ⟨z, hz, h2.factor hfe k2⟩⟩
theorem comp_some {f e : Em} {b : Nat} {d : Option Nat} (h : f.comp e b = some d) : (f b = some none ∧ d = none) ∨ ∃ c, f b = some (some c) ∧ e c = some d := by
  unfold Em.comp at h
  split at h
  · cases h
  · rename_i q; cases h; exact .inl ⟨q, rfl⟩
  · rename_i c q; exact .inr ⟨c, q, h⟩
theorem HN.comp {f e : Em} {k h H : Heap} (a : HN f k h) (b : HN e h H) : HN (f.comp e) k H where
  wf := a.wf
  dom := fun x y q => by
    rcases comp_some q with ⟨q, _⟩ | ⟨c, q, _⟩
    · exact a.dom _ _ q
    · exact a.dom _ _ q
  rng := fun x y q => by
    rcases comp_some q with ⟨_, q⟩ | ⟨c, _, q⟩
    · cases q
    · exact b.rng _ _ q
  blk := fun x y o ho q => by
    rcases comp_some q with ⟨_, q⟩ | ⟨c, q1, q2⟩
    · cases q
    · obtain ⟨l, g1, g2⟩ := a.blk x c o ho q1
      obtain ⟨m, g3, g4⟩ := b.blk c y _ g1 q2
      exact ⟨m, g3, g2.comp g4⟩
  gh := fun x o ho q => by
    rcases comp_some q with ⟨q, _⟩ | ⟨c, q1, q2⟩
    · exact a.gh x o ho q
    · obtain ⟨l, g1, g2⟩ := a.blk x c o ho q1
      have : l = [] := b.gh c _ g1 q2
      subst this
      exact List.eq_nil_of_length_eq_zero g2.1
  inj := fun x y c q1 q2 l1 l2 => by
    rcases comp_some q1 with ⟨_, q⟩ | ⟨c1, p1, p2⟩
    · cases q
    rcases comp_some q2 with ⟨_, q⟩ | ⟨c2, p3, p4⟩
    · cases q
    obtain ⟨o1, h1⟩ := Option.isSome_iff_exists.1 l1
    obtain ⟨o2, h2⟩ := Option.isSome_iff_exists.1 l2
    obtain ⟨_, g1, _⟩ := a.blk x c1 _ h1 p1
    obtain ⟨_, g2, _⟩ := a.blk y c2 _ h2 p3
    have := b.inj c1 c2 c p2 p4 (by rw [g1]; rfl) (by rw [g2]; rfl)
    subst this
    exact a.inj x y c1 p1 p3 l1 l2
/-! Where a call began -/
structure Cx where
  h0 : Heap
  e0 : Em
  H0 : Heap
  ok : HN e0 h0 H0
structure CX (X : Cx) (e : Em) (h H : Heap) : Prop where
  hn : HN e h H
  ex : Ex X.e0 e X.h0 X.H0 h H
theorem CX.next {X : Cx} {e e1 : Em} {h H h1 H1 : Heap} (h0 : HN X.e0 X.h0 X.H0) (c : CX X e h H) (hn : HN e1 h1 H1) (ex : Ex e e1 h H h1 H1) : CX X e1 h1 H1 := ⟨hn, c.ex.trans h0 ex⟩
/-- A memory told anew: its names stand for names of the other. -/
structure Sub (n0 : Nat) (f : Em) (k h : Heap) : Prop where
  hn : HN f k h
  fix : ∀ b, b < n0 → f b = some (some b)
  new : ∀ b c, n0 ≤ b → f b = some (some c) → n0 ≤ c
  le : n0 ≤ k.n
theorem Sub.cx {X : Cx} (h0 : HN X.e0 X.h0 X.H0) {f e : Em} {k h H : Heap} (s : Sub X.h0.n f k h) (c : CX X e h H) : CX X (f.comp e) k H where
  hn := s.hn.comp c.hn
  ex := {
    le := fun b x q => by
      have := h0.dom _ _ q
      simp only [Em.comp, s.fix b this]
      exact c.ex.le _ _ q
    new := fun b x q => by
      by_cases hb : b < X.h0.n
      · simp only [Em.comp, s.fix b hb] at q
        rcases c.ex.new _ _ q with k | ⟨k, _⟩
        · exact .inl k
        · omega
      · rcases comp_some q with ⟨_, rfl⟩ | ⟨d, q1, q2⟩
        · exact .inr ⟨by omega, fun c q => by cases q⟩
        · have := s.new b d (by omega) q1
          rcases c.ex.new _ _ q2 with k | ⟨_, k⟩
          · have := h0.dom _ _ k; omega
          · exact .inr ⟨by omega, k⟩
    hn := s.le
    Hn := c.ex.Hn
    keep := c.ex.keep
    lv := fun b hb q => by
      cases ho : k.get b with
      | none => rfl
      | some o =>
        obtain ⟨l, g1, _⟩ := s.hn.blk b b o ho (s.fix b hb)
        rw [c.ex.lv b hb q] at g1; cases g1 }
theorem TE.comp {f e : Em} {a b c : Tr Value} (h : TE f a b) (k : TE e b c) : TE (f.comp e) a c := fun t v q => by
  obtain ⟨w, h1, h2⟩ := h t v q
  obtain ⟨z, k1, k2⟩ := k t w h1
  exact ⟨z, k1, h2.comp k2⟩
/-- Stacks that go together. -/
def KE (X : Cx) : List Kf → Em → List Kf → Prop
  | [], _, K' => K' = []
  | .next b :: K, e, K' => ∃ L, K' = .next b :: L ∧ KE X K e L
  | .blk i :: K, e, K' => ∃ L, K' = .blk i :: L ∧ KE X K e L
  | .loop a :: K, e, K' => ∃ L, K' = .loop a :: L ∧ KE X K e L
  | .inv R :: K, e, K' => ∃ R' L, K' = .inv R' :: L ∧ (∀ s e1 H tm', CX X e1 s.H H → TE e1 s.tm tm' → KE X K e1 L → R s → R' ⟨tm', H⟩) ∧ KE X K e L
  | .call n dst tm ops l rs :: K, e, K' => ∃ tm' L, K' = .call n dst tm' ops l rs :: L ∧ TE e tm tm' ∧ KE X K e L
theorem KE.mono {X : Cx} {e e1 : Em} (he : e.le e1) : ∀ {K K' : List Kf}, KE X K e K' → KE X K e1 K' := by
  intro K
  induction K with
  | nil => intro K' h; exact h
  | cons k K ih =>
    intro K' h
    cases k with
    | next b => obtain ⟨L, h1, h2⟩ := h; exact ⟨L, h1, ih h2⟩
    | blk b => obtain ⟨L, h1, h2⟩ := h; exact ⟨L, h1, ih h2⟩
    | loop b => obtain ⟨L, h1, h2⟩ := h; exact ⟨L, h1, ih h2⟩
    | inv R => obtain ⟨R', L, h1, h2, h3⟩ := h; exact ⟨R', L, h1, h2, ih h3⟩
    | call n dst tm ops l rs => obtain ⟨tm', L, h1, h2, h3⟩ := h; exact ⟨tm', L, h1, h2.mono he, ih h3⟩
/-- Are the names in a value their own? -/
def fix0 (f : Em) : Value → Bool
  | .pointer (some ⟨b, _, none⟩) => match f b with | some (some c) => c.beq b | _ => false
  | .slice (some ⟨b, _, none⟩) _ _ => match f b with | some (some c) => c.beq b | _ => false
  | v => plain v
def fix1 (f : Em) : Value → Bool
  | .agg cs => cs.toList.all (fix0 f)
  | .tuple cs => cs.toList.all (fix0 f)
  | .func _ a b => a.toList.all (fix0 f) && b.toList.all (fix0 f)
  | .iface _ v => fix0 f v
  | v => fix0 f v
theorem fix0_sound {f : Em} {v : Value} (h : fix0 f v = true) : RN f v v := by
  unfold fix0 at h
  split at h
  · split at h
    · rename_i q; have := Nat.eq_of_beq_eq_true h; subst this; exact .ptr q
    · cases h
  · split at h
    · rename_i q; have := Nat.eq_of_beq_eq_true h; subst this; exact .slice q
    · cases h
  · exact .same h
theorem fixs_sound {f : Em} {a : Array Value} (h : a.toList.all (fix0 f) = true) : ∀ i (h1 : i < a.size) (h2 : i < a.size), RN f a[i] a[i] := fun i h1 h2 => fix0_sound (List.all_eq_true.1 h _ (by simp))
theorem fix1_sound {f : Em} {v : Value} (h : fix1 f v = true) : RN f v v := by
  unfold fix1 at h
  split at h
  · exact .agg rfl (fixs_sound h)
  · exact .tuple rfl (fixs_sound h)
  · rw [Bool.and_eq_true] at h; exact .func rfl (fixs_sound h.1) rfl (fixs_sound h.2)
  · exact .iface (fix0_sound h)
  · exact fix0_sound h
def Tr.all {α : Type} (p : α → Bool) : Tr α → Bool
  | .lf => true
  | .nd l none r => l.all p && r.all p
  | .nd l (some v) r => p v && l.all p && r.all p
theorem Tr.all_sound {α : Type} {p : α → Bool} : ∀ (t : Tr α) (i : Nat) (v : α), t.all p = true → t.get i = some v → p v = true := by
  intro t
  induction t with
  | lf => intro i v _ h; simp [Tr.get] at h
  | nd l x r ih1 ih2 =>
    intro i v h k
    have hx : l.all p = true ∧ r.all p = true ∧ ∀ u, x = some u → p u = true := by
      cases x with
      | none => simp only [Tr.all, Bool.and_eq_true] at h; exact ⟨h.1, h.2, fun u q => by cases q⟩
      | some u => simp only [Tr.all, Bool.and_eq_true] at h; exact ⟨h.1.2, h.2, fun u q => by cases q; exact h.1.1⟩
    cases i with
    | zero => simp only [Tr.get] at k; exact hx.2.2 _ k
    | succ i =>
      simp only [Tr.get] at k
      cases hb : (i % 2).beq 0
      · rw [hb] at k; exact ih2 _ _ hx.2.1 k
      · rw [hb] at k; exact ih1 _ _ hx.1 k
def kfix (f : Em) : List Kf → Bool
  | [] => true
  | .call _ _ tm _ _ _ :: K => tm.all (fix1 f) && kfix f K
  | _ :: K => kfix f K
theorem KE.re {X : Cx} {f e : Em} : ∀ {K K' : List Kf}, kfix f K = true → KE X K e K' → KE X K (f.comp e) K' := by
  intro K
  induction K with
  | nil => intro K' _ h; exact h
  | cons k K ih =>
    intro K' hf h
    cases k with
    | next b => obtain ⟨L, h1, h2⟩ := h; exact ⟨L, h1, ih hf h2⟩
    | blk b => obtain ⟨L, h1, h2⟩ := h; exact ⟨L, h1, ih hf h2⟩
    | loop b => obtain ⟨L, h1, h2⟩ := h; exact ⟨L, h1, ih hf h2⟩
    | inv R => obtain ⟨R', L, h1, h2, h3⟩ := h; exact ⟨R', L, h1, h2, ih hf h3⟩
    | call n dst tm ops l rs =>
      obtain ⟨tm', L, h1, h2, h3⟩ := h
      simp only [kfix, Bool.and_eq_true] at hf
      exact ⟨tm', L, h1, TE.comp (fun t v q => ⟨v, q, fix1_sound (Tr.all_sound _ _ _ hf.1 q)⟩) h2, ih hf.2 h3⟩
/-! What is to be shown of a small state -/
section
variable (P : Program) (T : Tab) (X : Cx)
def SD (Q : Xt → St → Prop) (c : Cf) : Prop := ∀ e H tm' K', CX X e c.s.H H → TE e c.s.tm tm' → KE X c.K e K' → Den P T ⟨c.n, c.p, K', ⟨tm', H⟩⟩ Q
/-- A contract: what it shows of a small memory holds wherever that stands for a part. -/
def SCall (f : FuncId) (args : Array Value) (h : Heap) (R : Value → Heap → Prop) : Prop :=
  ∀ e args' H, HN e h H → RNs e args.toList args'.toList → ACall P T f args' H fun v' H1 => ∃ v h1 e1, R v h1 ∧ HN e1 h1 H1 ∧ Ex e e1 h H h1 H1 ∧ RN e1 v v'
def QF (rs : Array ResultVar) (R : Value → Heap → Prop) : Xt → St → Prop := bodyQ T rs fun v' H1 => ∃ v h1 e1, R v h1 ∧ HN e1 h1 H1 ∧ Ex X.e0 e1 X.h0 X.H0 h1 H1 ∧ RN e1 v v'
/-- Values without names, and no rows. -/
def dat0 : Value → Bool | .bool _ | .int _ _ | .string _ => true | _ => false
def dat : Value → Bool | .agg cs => cs.toList.all dat0 | v => dat0 v
class OrcDat : Prop where
  dat : ∀ f l v, T.orc f l = some v → closed v = true ∧ l.all dat = true
def guardP (tm : Tr Value) (ops : Array Oper) (o : Oper) : Bool := match o.guard with
  | none => true
  | some (j, _) => match (ops[j]?).bind (·.dst) with | some d => (tm.get d).isSome | none => true
def strictO (tm : Tr Value) (ops : Array Oper) (o : Oper) : Bool := guardP tm ops o && (!awanted ops tm o || (o.op.operands.toList.all (pres tm) && okB tm o.op))
def presR (tm : Tr Value) : ResultVar → Bool
  | .tmp t => (tm.get t).isSome
  | .cell a _ => (tm.get a).isSome
def presK (tm : Tr Value) : List Kf → Bool
  | .call _ _ _ _ _ rs :: _ => rs.toList.all (presR tm)
  | _ => true
def stepS (c : Cf) : Option Cf :=
  match c.p with
  | .code a => (match a with | .cond x _ _ => bif pres c.s.tm x then stepF P T c else none | _ => stepF P T c)
  | .ops ops (o :: _) => bif strictO c.s.tm ops o then stepF P T c else none
  | .ops _ [] => stepF P T c
  | .done _ => bif presK c.s.tm c.K then stepF P T c else none
def goS : Nat → Cf → Cf
  | 0, c => c
  | k + 1, c => match stepS P T c with
    | some c' => goS k c'
    | none => c
end
section
variable {P : Program} {T : Tab} {X : Cx} {Q : Xt → St → Prop} {c c' : Cf}
theorem dat0_plain {v : Value} (h : dat0 v = true) : plain v = true := by cases v <;> first | rfl | cases h
theorem dat_closed {v : Value} (h : dat v = true) : closed v = true := by
  unfold dat at h
  split at h
  · unfold closed; rw [List.all_eq_true] at h ⊢; exact fun x hx => dat0_plain (h x hx)
  · have := dat0_plain h; cases v <;> first | exact this | cases h
theorem RN.dat0_eq {e : Em} {v v' : Value} (h : RN e v v') (hd : dat0 v' = true) : v = v' := by
  cases h <;> first | rfl | cases hd
theorem RN.dat_eq {e : Em} {v v' : Value} (h : RN e v v') (hd : dat v' = true) : v = v' := by
  cases h with
  | same hp => rfl
  | agg hs h =>
    simp only [dat, List.all_eq_true] at hd
    congr 1
    exact Array.ext hs fun i h1 h2 => (h i h1 h2).dat0_eq (hd _ (by simp))
  | _ => cases hd
theorem RNs.dat_eq {e : Em} {l l' : List Value} (h : RNs e l l') (hd : l'.all dat = true) : l = l' := by
  refine List.ext_getElem h.1 fun i h1 h2 => ?_
  obtain ⟨y, hy, hv⟩ := h.2 i _ (List.getElem?_eq_getElem h1)
  rw [List.getElem?_eq_getElem h2] at hy; cases hy
  exact hv.dat_eq (List.all_eq_true.1 hd _ (by simp))
theorem RNs.closed_eq {e : Em} {l l' : List Value} (h : RNs e l l') (hd : l.all closed = true) : l' = l := by
  refine List.ext_getElem h.1.symm fun i h1 h2 => ?_
  obtain ⟨y, hy, hv⟩ := h.2 i _ (List.getElem?_eq_getElem h2)
  rw [List.getElem?_eq_getElem h1] at hy; cases hy
  exact hv.closed_eq (List.all_eq_true.1 hd _ (by simp))
theorem OrcDat.rn (hO : OrcDat T) {f : FuncId} {e : Em} {a a' : Array Value} (h : RNs e a.toList a'.toList) : T.orc f a'.toList = T.orc f a.toList := by
  cases h1 : T.orc f a.toList with
  | some v =>
    obtain ⟨_, h3⟩ := hO.dat _ _ _ h1
    rw [h.closed_eq (by rw [List.all_eq_true] at h3 ⊢; exact fun x hx => dat_closed (h3 x hx)), h1]
  | none =>
    cases h2 : T.orc f a'.toList with
    | none => rfl
    | some v =>
      obtain ⟨_, h3⟩ := hO.dat _ _ _ h2
      rw [h.dat_eq h3, h2] at h1; cases h1
theorem awanted_rn {e : Em} {tm tm' : Tr Value} {ops : Array Oper} {o : Oper} (ht : TE e tm tm') (hg : guardP tm ops o = true) : awanted ops tm' o = awanted ops tm o := by
  unfold guardP at hg
  unfold awanted
  split at hg
  · rename_i q; simp only [q]
  · rename_i j w q
    simp only [q]
    split at hg
    · rename_i d q2
      simp only [q2]
      obtain ⟨v, hv⟩ := Option.isSome_iff_exists.1 hg
      obtain ⟨v', k1, k2⟩ := ht d v hv
      simp only [hv, k1]
      cases k2 with
      | same hp => rfl
      | _ => rfl
    · rename_i q2; simp only [q2]
theorem results_rn {e : Em} {tm tm' : Tr Value} {h H : Heap} (ht : TE e tm tm') (hn : HN e h H) : ∀ (l : List ResultVar) (r : List Value), l.all (presR tm) = true → results1 T tm h l = some r → ∃ r', results1 T tm' H l = some r' ∧ RNs e r r' := by
  intro l
  induction l with
  | nil => intro r _ q; simp only [results1] at q ⊢; cases q; exact ⟨_, rfl, RNs.nil⟩
  | cons x l ih =>
    intro r hp q
    simp only [List.all_cons, Bool.and_eq_true] at hp
    cases x with
    | tmp t =>
      simp only [results1] at q
      split at q
      · rename_i l1 q1
        cases q
        obtain ⟨r', k1, k2⟩ := ih _ hp.2 q1
        obtain ⟨v, hv⟩ := Option.isSome_iff_exists.1 (show (tm.get t).isSome = true from hp.1)
        obtain ⟨v', g1, g2⟩ := ht t v hv
        refine ⟨v' :: r', by simp only [results1, k1, g1, Option.getD_some], ?_⟩
        rw [hv]
        exact RNs.cons g2 k2
      · cases q
    | cell a t =>
      simp only [results1] at q
      split at q
      · rename_i w l1 q1 q2
        cases q
        obtain ⟨r', k1, k2⟩ := ih _ hp.2 q2
        obtain ⟨v, hv⟩ := Option.isSome_iff_exists.1 (show (tm.get a).isSome = true from hp.1)
        obtain ⟨v', g1, g2⟩ := ht a v hv
        rw [hv] at q1
        obtain ⟨w', g3, g4⟩ := aload_rn q1 hn g2
        exact ⟨w' :: r', by simp only [results1, k1, g1, Option.getD_some, g3], RNs.cons g4 k2⟩
      · cases q
theorem aresults_rn {e : Em} {tm tm' : Tr Value} {h H : Heap} (ht : TE e tm tm') (hn : HN e h H) {rs : Array ResultVar} {v : Value} (hp : rs.toList.all (presR tm) = true) (hv : aresults T tm h rs = some v) : ∃ v', aresults T tm' H rs = some v' ∧ RN e v v' := by
  unfold aresults at hv ⊢
  split at hv
  · rename_i u q
    cases hv
    obtain ⟨r', k1, k2⟩ := results_rn ht hn _ _ hp q
    obtain ⟨y, hy, hr⟩ := k2.2 0 v rfl
    have : r' = [y] := by
      match r', k2.1, hy with
      | [p], _, hy => simp at hy; subst hy; rfl
    subst this
    simp only [k1]
    exact ⟨_, rfl, hr⟩
  · rename_i l hne q
    cases hv
    obtain ⟨r', k1, k2⟩ := results_rn ht hn _ _ hp q
    simp only [k1]
    have hne' : ∀ u, r' ≠ [u] := fun u q2 => by
      subst q2
      have := k2.1
      match l, this, hne with
      | [p], _, hne => exact hne p rfl
    split
    · rename_i u q3; cases q3; exact absurd rfl (hne' _)
    · rename_i l2 _ q3; cases q3; exact ⟨_, rfl, RNs.tuple k2⟩
    · rename_i q3; cases q3
  · cases hv
theorem den_put {e : Em} {n : Nat} {K K' : List Kf} {ops : Array Oper} {l : List Oper} {dst : Option Tmp} {tm tm' : Tr Value} {v v' : Value} {h H : Heap} (hd : SD P T X Q c') (hp : sPut n K ops l dst tm v h = some c') (hx : CX X e h H) (ht : TE e tm tm') (hk : KE X K e K') (hv : RN e v v') :
    ∃ c2, sPut n K' ops l dst tm' v' H = some c2 ∧ Den P T c2 Q := by
  unfold sPut at hp ⊢
  cases dst with
  | none =>
    simp only [dput] at hp ⊢
    cases hp
    exact ⟨_, rfl, hd e H tm' K' hx ht hk⟩
  | some d =>
    simp only [dput] at hp ⊢
    cases hb : d.blt n
    · rw [hb] at hp; cases hp
    · rw [hb] at hp
      simp only [cond_true] at hp ⊢
      cases hp
      exact ⟨_, rfl, hd e H _ K' hx (ht.put d hv) hk⟩
theorem init_te {e : Em} : ∀ (l l' : List Value) (k : Nat) (t t' : Tr Value), RNs e l l' → TE e t t' → TE e (initTm.go l k t) (initTm.go l' k t') := by
  intro l
  induction l with
  | nil =>
    intro l' k t t' h ht
    have : l' = [] := List.eq_nil_of_length_eq_zero (by have := h.1; simp at this; exact this.symm)
    subst this
    exact ht
  | cons x l ih =>
    intro l' k t t' h ht
    cases l' with
    | nil => have := h.1; simp at this
    | cons y l' =>
      obtain ⟨y', hy, hv⟩ := h.2 0 x (by simp)
      simp at hy
      subst hy
      simp only [initTm.go]
      exact ih l' (k + 1) _ _ ⟨by have := h.1; simpa using this, fun i z hz => by simpa using h.2 (i + 1) z (by simpa using hz)⟩ (ht.put k hv)
theorem init_rn {e : Em} {a a' : Array Value} (h : RNs e a.toList a'.toList) : TE e (initTm 0 a) (initTm 0 a') := init_te _ _ _ _ _ h fun t v q => by simp [Tr.get] at q
variable (h0 : HN X.e0 X.h0 X.H0) (hO : OrcDat T)
include h0 hO
theorem stepS_sound (h : stepS P T c = some c') (hd : SD P T X Q c') : SD P T X Q c := by
  intro e H tm' K' hx ht hk
  obtain ⟨n, p, K, s⟩ := c
  simp only at hx ht hk ⊢
  cases p with
  | code a =>
    have hs : sCode T n K s a = some c' ∧ ∀ x p q, a = .cond x p q → pres s.tm x = true := by
      unfold stepS at h
      simp only at h
      split at h
      · rename_i x p q
        cases hb : pres s.tm x
        · rw [hb] at h; cases h
        · rw [hb] at h; exact ⟨h, fun x' p' q' k => by cases k; exact hb⟩
      · rename_i hne; exact ⟨h, fun x p q k => absurd k (hne x p q)⟩
    obtain ⟨h, hpc⟩ := hs
    suffices ∃ c2, sCode T n K' ⟨tm', H⟩ a = some c2 ∧ Den P T c2 Q by
      obtain ⟨c2, k1, k2⟩ := this
      exact stepF_sound (show stepF P T ⟨n, .code a, K', ⟨tm', H⟩⟩ = some c2 from k1) k2
    unfold sCode at h ⊢
    cases a with
    | skip => cases h; exact ⟨_, rfl, hd e H tm' K' hx ht hk⟩
    | label i => cases h; exact ⟨_, rfl, hd e H tm' K' hx ht hk⟩
    | ret => cases h; exact ⟨_, rfl, hd e H tm' K' hx ht hk⟩
    | exit i => cases h; exact ⟨_, rfl, hd e H tm' K' hx ht hk⟩
    | seq a b => cases h; exact ⟨_, rfl, hd e H tm' _ hx ht ⟨_, rfl, hk⟩⟩
    | block i a => cases h; exact ⟨_, rfl, hd e H tm' _ hx ht ⟨_, rfl, hk⟩⟩
    | scope a => cases h; exact ⟨_, rfl, hd e H tm' K' hx ht hk⟩
    | loop a => cases h; exact ⟨_, rfl, hd e H tm' _ hx ht ⟨_, rfl, hk⟩⟩
    | cond x a b =>
      simp only at h
      split at h
      · rename_i t q
        cases h
        obtain ⟨v', k1, k2⟩ := TE.op (xs := [x]) ht (by simp [hpc x a b rfl]) x (by simp) _ q
        cases k2.plain_eq rfl
        simp only [k1]
        exact ⟨_, rfl, hd e H tm' K' hx ht hk⟩
      · cases h
    | region i ops draw =>
      simp only at h ⊢
      cases hb : (draw && !(loose T ops).isEmpty)
      · rw [hb] at h; cases h; exact ⟨_, rfl, hd e H tm' K' hx ht hk⟩
      · rw [hb] at h; cases h
    | _ => cases h
  | ops ops l =>
    cases l with
    | nil =>
      have h' : some (⟨n, .done .normal, K, s⟩ : Cf) = some c' := h
      cases h'
      exact stepF_sound (show stepF P T ⟨n, .ops ops [], K', ⟨tm', H⟩⟩ = some ⟨n, .done .normal, K', ⟨tm', H⟩⟩ from rfl) (hd e H tm' K' hx ht hk)
    | cons o l =>
      have hs : strictO s.tm ops o = true ∧ sOp P T n K s ops o l = some c' := by
        unfold stepS at h
        simp only at h
        cases hb : strictO s.tm ops o
        · rw [hb] at h; cases h
        · rw [hb] at h; exact ⟨rfl, h⟩
      obtain ⟨hst, h⟩ := hs
      unfold strictO at hst
      simp only [Bool.and_eq_true] at hst
      obtain ⟨hg, hst⟩ := hst
      suffices ∃ c2, sOp P T n K' ⟨tm', H⟩ ops o l = some c2 ∧ Den P T c2 Q by
        obtain ⟨c2, k1, k2⟩ := this
        exact stepF_sound (show stepF P T ⟨n, .ops ops (o :: l), K', ⟨tm', H⟩⟩ = some c2 from k1) k2
      have haw := awanted_rn ht hg
      unfold sOp at h ⊢
      simp only [haw]
      cases hw : awanted ops s.tm o
      · rw [hw] at h
        simp only [cond_false] at h ⊢
        exact den_put hd h hx ht hk (.of_closed rfl)
      · rw [hw] at h hst
        simp only [cond_true, Bool.not_true, Bool.false_or, Bool.and_eq_true] at h hst ⊢
        split at h
        · rename_i v h1 q
          obtain ⟨r', H1, e1, g1, g2, g3, g4⟩ := aop_rn q hx.hn (ht.op hst.1) hst.2
          cases g4 with
          | val hv =>
            simp only [g1]
            exact den_put hd h (hx.next h0 g2 g3) (ht.mono g3.le) (KE.mono g3.le hk) hv
        · rename_i h1 q
          obtain ⟨r', H1, e1, g1, g2, g3, g4⟩ := aop_rn q hx.hn (ht.op hst.1) hst.2
          cases g4 with
          | skip =>
            simp only [g1]
            exact den_put hd h (hx.next h0 g2 g3) (ht.mono g3.le) (KE.mono g3.le hk) (.of_closed rfl)
        · rename_i f args h1 q
          obtain ⟨r', H1, e1, g1, g2, g3, g4⟩ := aop_rn q hx.hn (ht.op hst.1) hst.2
          cases g4 with
          | enter hv =>
            rename_i args'
            simp only [g1]
            have hx1 := hx.next h0 g2 g3
            have ht1 := ht.mono g3.le
            have hk1 := KE.mono g3.le hk
            have ho := hO.rn (f := f) hv
            unfold sEnter at h ⊢
            simp only [ho]
            split at h
            · rename_i v q2
              try simp only [q2]
              exact den_put hd h hx1 ht1 hk1 (.of_closed (hO.dat _ _ _ q2).1)
            · rename_i q2
              try simp only [q2]
              split at h
              · rename_i fn q3
                try simp only [q3]
                split at h
                · rename_i b q4
                  try simp only [q4]
                  cases h
                  refine ⟨_, rfl, ?_⟩
                  have hsz : args.size = args'.size := by simpa using hv.1
                  rw [← hsz]
                  exact hd e1 H1 _ _ hx1 (init_rn hv) ⟨tm', K', rfl, ht1, hk1⟩
                · cases h
              · cases h
        · cases h
  | done x =>
    have hs : presK s.tm K = true ∧ sDone T n s x K = some c' := by
      unfold stepS at h
      simp only at h
      cases hb : presK s.tm K
      · rw [hb] at h; cases h
      · rw [hb] at h; exact ⟨rfl, h⟩
    obtain ⟨hpk, h⟩ := hs
    suffices ∃ c2, sDone T n ⟨tm', H⟩ x K' = some c2 ∧ Den P T c2 Q by
      obtain ⟨c2, k1, k2⟩ := this
      exact stepF_sound (show stepF P T ⟨n, .done x, K', ⟨tm', H⟩⟩ = some c2 from k1) k2
    cases K with
    | nil => cases h
    | cons k K =>
      cases k with
      | next b =>
        obtain ⟨L, rfl, hk⟩ := hk
        simp only [sDone] at h ⊢
        cases x <;> (cases h; exact ⟨_, rfl, hd e H tm' L hx ht hk⟩)
      | loop b =>
        obtain ⟨L, rfl, hk⟩ := hk
        simp only [sDone] at h ⊢
        cases x <;> (cases h; exact ⟨_, rfl, hd e H tm' L hx ht hk⟩)
      | inv R =>
        obtain ⟨R', L, rfl, _, hk⟩ := hk
        simp only [sDone] at h ⊢
        cases x <;> first | (cases h; exact ⟨_, rfl, hd e H tm' L hx ht hk⟩) | cases h
      | blk i =>
        obtain ⟨L, rfl, hk⟩ := hk
        simp only [sDone] at h ⊢
        cases x with
        | exit j =>
          simp only at h ⊢
          cases hb : j.beq i
          · rw [hb] at h; cases h; exact ⟨_, rfl, hd e H tm' L hx ht hk⟩
          · rw [hb] at h; cases h; exact ⟨_, rfl, hd e H tm' L hx ht hk⟩
        | _ => cases h; exact ⟨_, rfl, hd e H tm' L hx ht hk⟩
      | call m dst tm ops l rs =>
        obtain ⟨tm2, L, rfl, ht2, hk⟩ := hk
        simp only [sDone] at h ⊢
        cases x with
        | exit i => cases h
        | _ =>
          simp only at h ⊢
          split at h
          · rename_i v q
            obtain ⟨v', g1, g2⟩ := aresults_rn ht hx.hn hpk q
            simp only [g1]
            exact den_put hd h hx ht2 hk g2
          · cases h
/-- The machine runs on by itself. -/
theorem sd_go (k : Nat) (h : SD P T X Q (goS P T k c)) : SD P T X Q c := by
  induction k generalizing c with
  | zero => exact h
  | succ k ih =>
    cases q : stepS P T c with
    | none => simp only [goS, q] at h; exact h
    | some c' => simp only [goS, q] at h; exact stepS_sound h0 hO q (ih h)
end
end Go.Ev
