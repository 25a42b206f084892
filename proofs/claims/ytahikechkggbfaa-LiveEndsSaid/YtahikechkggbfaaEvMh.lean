/- Memory under other names: rules for what is told by a fact; rows of rows. -/
import Derived.Test.YtahikechkggbfaaEvMg
namespace Go.Ev
open Go
set_option linter.unusedVariables false
set_option linter.unusedSimpArgs false
/-! Rows of rows -/
def tab {α : Type} (enc : α → List Value) (l : List α) : List Value := l.flatMap enc
section
variable {α : Type} {enc : α → List Value} {s : Nat}
theorem tab_nil : tab enc [] = [] := rfl
theorem tab_cons (a : α) (l : List α) : tab enc (a :: l) = enc a ++ tab enc l := by simp [tab]
theorem tab_app (l m : List α) : tab enc (l ++ m) = tab enc l ++ tab enc m := by simp [tab]
theorem tab_snoc (l : List α) (a : α) : tab enc l ++ enc a = tab enc (l ++ [a]) := by simp [tab]
theorem tab_len (hs : ∀ a, (enc a).length = s) (l : List α) : (tab enc l).length = l.length * s := by
  induction l with
  | nil => simp [tab]
  | cons a l ih => rw [tab_cons, List.length_append, ih, hs, List.length_cons, Nat.add_mul, Nat.one_mul, Nat.add_comm]
theorem tab_plain (hp : ∀ a, (enc a).all plain = true) (l : List α) : (tab enc l).all plain = true := by
  induction l with
  | nil => rfl
  | cons a l ih => rw [tab_cons, List.all_append, hp, ih]; rfl
theorem tab_drop (hs : ∀ a, (enc a).length = s) : ∀ (l : List α) (k : Nat), (tab enc l).drop (k * s) = tab enc (l.drop k) := by
  intro l
  induction l with
  | nil => intro k; simp [tab]
  | cons a l ih =>
    intro k
    cases k with
    | zero => simp
    | succ k =>
      rw [tab_cons, List.drop_succ_cons, ← ih k, show (k + 1) * s = (enc a).length + k * s by rw [hs, Nat.add_mul, Nat.one_mul, Nat.add_comm], List.drop_length_add_append]
theorem tab_take (hs : ∀ a, (enc a).length = s) : ∀ (l : List α) (k : Nat), (tab enc l).take (k * s) = tab enc (l.take k) := by
  intro l
  induction l with
  | nil => intro k; simp [tab]
  | cons a l ih =>
    intro k
    cases k with
    | zero => simp [tab]
    | succ k =>
      rw [tab_cons, List.take_succ_cons, tab_cons, ← ih k, show (k + 1) * s = (enc a).length + k * s by rw [hs, Nat.add_mul, Nat.one_mul, Nat.add_comm], List.take_length_add_append]
theorem tab_row (hs : ∀ a, (enc a).length = s) {l : List α} {k : Nat} {a : α} (h : l[k]? = some a) : ((tab enc l).drop (0 + k * s)).take s = enc a := by
  rw [Nat.zero_add, tab_drop hs]
  obtain ⟨hk, rfl⟩ := List.getElem?_eq_some_iff.1 h
  rw [List.drop_eq_getElem_cons hk, tab_cons]
  conv => lhs; arg 1; rw [← hs l[k]]
  rw [List.take_left]
theorem tab_cell (hs : ∀ a, (enc a).length = s) {l : List α} {k j : Nat} {a : α} {v : Value} (h : l[k]? = some a) (hj : (enc a)[j]? = some v) : (tab enc l)[0 + k * s + j]? = some v := by
  have hjs : j < s := by rw [← hs a]; exact (List.getElem?_eq_some_iff.1 hj).1
  have := tab_row hs h
  rw [← this, List.getElem?_take, if_pos hjs, List.getElem?_drop] at hj
  exact hj
theorem tab_set (hs : ∀ a, (enc a).length = s) : ∀ {l : List α} {k j : Nat} {a a' : α} {v : Value}, l[k]? = some a → j < s → (enc a).set j v = enc a' → (tab enc l).set (0 + k * s + j) v = tab enc (l.set k a') := by
  intro l
  induction l with
  | nil => intro k j a a' v h; simp at h
  | cons b l ih =>
    intro k j a a' v h hj he
    cases k with
    | zero =>
      simp at h; subst h
      rw [tab_cons, List.set_cons_zero, tab_cons, ← he, List.set_append_left _ _ (by rw [hs]; omega)]
      congr 2; omega
    | succ k =>
      rw [tab_cons, List.set_cons_succ, tab_cons, List.set_append_right _ _ (by rw [hs, Nat.add_mul, Nat.one_mul]; omega), ← ih (k := k) (by simpa using h) hj he]
      congr 2
      rw [hs, Nat.add_mul, Nat.one_mul]; omega
theorem tab_put (hs : ∀ a, (enc a).length = s) : ∀ {l : List α} {k : Nat} {a : α}, k < l.length → (tab enc l).take (0 + k * s) ++ enc a ++ (tab enc l).drop (0 + k * s + (enc a).length) = tab enc (l.set k a) := by
  intro l k a hk
  rw [hs, Nat.zero_add, tab_take hs, show k * s + s = (k + 1) * s by rw [Nat.add_mul, Nat.one_mul], tab_drop hs, tab_snoc, ← tab_app, List.set_eq_take_append_cons_drop, if_pos hk]
  simp
end
theorem tab_one {α : Type} {enc : α → List Value} {v : Value} {a : α} (h : enc a = [v]) (n : Nat) : zerosOf [v] n = tab enc (List.replicate n a) := by
  show List.replicate n v = _
  induction n with
  | zero => rfl
  | succ n ih => rw [List.replicate_succ, List.replicate_succ, tab_cons, h, ih]; rfl
theorem tab_many {α : Type} {enc : α → List Value} {a : α} (h : (Nat.blt 1 (enc a).length) = true) (n : Nat) : zerosOf (enc a) n = tab enc (List.replicate n a) := by
  have h2 : 1 < (enc a).length := Nat.le_of_ble_eq_true h
  unfold zerosOf
  split
  · rename_i q; rw [q] at h2; simp at h2
  · induction n with
    | zero => rfl
    | succ n ih => rw [List.replicate_succ, List.replicate_succ, List.flatten_cons, tab_cons, ih]
section
variable {T : Tab} {H : Heap} {α : Type} {enc : α → List Value} {s b : Nat} {l : List α} {e : TypeId} {ro : Bool} {ty : TypeId} {k : Nat} {a : α}
theorem ld_row (hs : ∀ a, (enc a).length = s) (g : H.get b = some ⟨tab enc l, e, ro⟩) (hr : rowB T ty = true) (hz : T.size ty = some s) (ha : l[k]? = some a) : aload T ty (.pointer (some ⟨b, 0 + k * s, none⟩)) H = some (.agg (enc a).toArray) :=
  (aload_at g).trans (aloadC_rowB hr hz (hs a) (tab_row hs ha))
theorem ld_cell (hs : ∀ a, (enc a).length = s) (g : H.get b = some ⟨tab enc l, e, ro⟩) (hr : cellB T ty = true) (hz : T.size ty = some 1) (ha : l[k]? = some a) {j : Nat} {v : Value} (hj : (enc a)[j]? = some v) : aload T ty (.pointer (some ⟨b, 0 + k * s + j, none⟩)) H = some v :=
  (aload_at g).trans (aloadC_cellB hr hz (tab_cell hs ha hj))
theorem st_cell (hs : ∀ a, (enc a).length = s) (hz : T.size ty = some 1) {v : Value} (hv : Ev.one v = true) (ha : l[k]? = some a) {j : Nat} {a' : α} (hj : (j.blt s) = true) (he : (enc a).set j v = enc a') : astoreC T ty (tab enc l) (0 + k * s + j) v = some (tab enc (l.set k a')) := by
  have hjs : j < s := Nat.le_of_ble_eq_true hj
  have hk := (List.getElem?_eq_some_iff.1 ha).1
  rw [astoreC_one hz (one_cells hv) hv, tab_set hs ha hjs he]
  rw [tab_len hs]
  have : (k + 1) * s ≤ l.length * s := Nat.mul_le_mul_right _ hk
  rw [Nat.add_mul, Nat.one_mul] at this
  omega
theorem st_row (hs : ∀ a, (enc a).length = s) (hz : T.size ty = some s) {v : Value} {a' : α} (hv : v.cells.toList = enc a') (h1 : (enc a').all Ev.one = true) (hk : k < l.length) (hs2 : (Nat.blt 1 s) = true) : astoreC T ty (tab enc l) (0 + k * s) v = some (tab enc (l.set k a')) := by
  have hsz : v.cells.size.beq s = true := by
    have : v.cells.size = s := by rw [← Array.length_toList, hv, hs]
    rw [this]; exact Nat.beq_refl _
  have hle : (0 + k * s + (enc a').length).ble (tab enc l).length = true := by
    rw [tab_len hs, hs]
    have : (k + 1) * s ≤ l.length * s := Nat.mul_le_mul_right _ hk
    rw [Nat.add_mul, Nat.one_mul] at this
    exact Nat.ble_eq_true_of_le (by omega)
  unfold astoreC
  simp only [hz, hsz, hv, h1, hle, Bool.and_self, cond_true]
  congr 1
  have hlen := hs a'
  have h2 : 1 < s := Nat.le_of_ble_eq_true hs2
  unfold splice
  split
  · rename_i q; rw [q] at hlen; simp at hlen; omega
  · exact tab_put hs hk
end
theorem ble2 {a b c : Nat} (h1 : a ≤ b) (h2 : b ≤ c) : (Nat.ble a b && Nat.ble b c) = true := by rw [Bool.and_eq_true]; exact ⟨Nat.ble_eq_true_of_le h1, Nat.ble_eq_true_of_le h2⟩
theorem veqs_c {x : Value} {a : List Value} (h : veq x x = true) (t : veqs a a = true) (hx : veq x x = veq0 x x := by rfl) : veqs (x :: a) (x :: a) = true := by unfold veqs; rw [← hx, h, t]; rfl
theorem orcDat_none {T : Tab} (h : ∀ f l, T.orc f l = none) : OrcDat T := ⟨fun f l v q => by rw [h] at q; cases q⟩
theorem orcDat_add {T : Tab} (h : OrcDat T) (f0 : FuncId) (sp : List Value → Option Value) (hs : ∀ l v, sp l = some v → closed v = true ∧ l.all dat = true) : OrcDat { T with orc := addOrc T.orc f0 sp } := ⟨fun f l v q => by
  have q : addOrc T.orc f0 sp f l = some v := q
  unfold addOrc at q
  cases hb : Nat.beq f f0
  · rw [hb] at q; exact h.dat f l v q
  · rw [hb] at q; exact hs l v q⟩
/-! The rules -/
section
variable {P : Program} {T : Tab} {X : Cx} {Q : Xt → St → Prop} {c : Cf}
theorem sd_run [OrcDat T] (k : Nat) (h : SD P T X Q (goS P T k c)) : SD P T X Q c := sd_go X.ok inferInstance k h
theorem sd_wf (h : (∀ b o, c.s.H.get b = some o → b < c.s.H.n) → SD P T X Q c) : SD P T X Q c := fun e H tm' K' hx => h hx.hn.wf e H tm' K' hx
def ldOf (c : Cf) : Option (TypeId × Value) := match (opC c).op with
  | .load ty a => (match aeval c.s.tm a with | some u => some (ty, u) | none => none)
  | _ => none
def stArg (c : Cf) : Option (TypeId × Value × Value) := match (opC c).op with
  | .store ty a x => (match aeval c.s.tm a, aeval c.s.tm x with | some u, some v => some (ty, u, v) | _, _ => none)
  | _ => none
def apOf (c : Cf) : Option (TypeId × TypeId × Value × Value) := match (opC c).op with
  | .call cl => (match cl.callee, cl.argTypes.toList, aevals c.s.tm cl.args.toList with | .builtin .append, [st, xt], some [s, x] => some (st, xt, s, x) | _, _, _ => none)
  | _ => none
def cvOf (c : Cf) : Option (TypeId × TypeId × Value) := match (opC c).op with
  | .convert s d a => (match aeval c.s.tm a with | some u => some (s, d, u) | none => none)
  | _ => none
theorem sd_ld (t : Nat) (v : Value) (ty : TypeId) (p : Value) (ho : okOp c t = true) (hs : strictC c = true) (h1 : ldOf c = some (ty, p)) (hl : aload T ty p c.s.H = some v) (hk : SD P T X Q (c.put t v c.s.H)) : SD P T X Q c := by
  refine sd_val t v c.s.H ho hs ?_ hk
  unfold ldOf at h1
  unfold aop
  split at h1
  · rename_i ty' a hop
    split at h1
    · rename_i u hu; cases h1; simp only [hop, hu, hl, val]
    · cases h1
  · cases h1
/-- What is looked up in a row, within it. -/
theorem sd_ix (t : Nat) (v : Value) (i len : Nat) (ho : okOp c t = true) (hs : strictC c = true) (h1 : aop P T c.s.tm (opC c) c.s.H = val (bif i.blt len then some v else none) c.s.H) (hi : i < len) (hk : SD P T X Q (c.put t v c.s.H)) : SD P T X Q c := by
  refine sd_val t v c.s.H ho hs ?_ hk
  rw [h1, show i.blt len = true from (by rw [blt_dec]; simp [hi])]
  rfl
/-- What an operation makes, if a test says so. -/
theorem sd_if (t : Nat) (v : Value) (b : Bool) (ho : okOp c t = true) (hs : strictC c = true) (h1 : aop P T c.s.tm (opC c) c.s.H = val (bif b then some v else none) c.s.H) (hb : b = true) (hk : SD P T X Q (c.put t v c.s.H)) : SD P T X Q c := by
  refine sd_val t v c.s.H ho hs ?_ hk
  rw [h1, hb]
  rfl
theorem sd_st (ty : TypeId) (b off : Nat) (x : Value) (l : List Value) {cells : List Value} {e : TypeId} (ho : okNo c = true) (hs : strictC c = true) (h1 : stArg c = some (ty, .pointer (some ⟨b, off, none⟩), x)) (g : c.s.H.get b = some ⟨cells, e, false⟩) (h : astoreC T ty cells off x = some l)
    (hk : SD P T X Q (c.skp (c.s.H.put b ⟨l, e, false⟩))) : SD P T X Q c := by
  refine sd_skip _ ho hs ?_ hk
  unfold stArg at h1
  unfold aop
  split at h1
  · rename_i ty' a y hop
    split at h1
    · rename_i u v hu hv; cases h1; simp only [hop, hu, hv, astore_to g h, skp]
    · cases h1
  · cases h1
theorem sd_ap (t : Nat) (st xt : TypeId) (s x v : Value) (h1 : Heap) (ho : okOp c t = true) (hs : strictC c = true) (hA : apOf c = some (st, xt, s, x)) (ha : aappend T st xt s x c.s.H = some (v, h1)) (hk : SD P T X Q (c.put t v h1)) : SD P T X Q c := by
  refine sd_val t v h1 ho hs ?_ hk
  unfold apOf at hA
  unfold aop
  split at hA
  · rename_i cl hop
    split at hA
    · rename_i st' xt' s' x' e1 e2 e3
      cases hA
      simp only [hop, acall, e1, e2, e3, ha, val2]
    · cases hA
  · cases hA
/-- A row's element type, how many cells it has, how many bytes. -/
def apTab (T : Tab) (st xt : TypeId) : Option (TypeId × Nat × Nat) := match T.under st, T.under xt with
  | some (.slice e), some xd => bif isIntD xd then none else (match T.size e, T.bytes e, T.zero e with | some (s + 1), some (b + 1), some _ => some (e, s, b) | _, _, _ => none)
  | _, _ => none
theorem apTab_spec {st xt e : TypeId} {s0 by_ : Nat} (h : apTab T st xt = some (e, s0, by_)) : T.under st = some (.slice e) ∧ (∃ xd, T.under xt = some xd ∧ isIntD xd = false) ∧ T.size e = some (s0 + 1) ∧ T.bytes e = some (by_ + 1) ∧ ∃ z, T.zero e = some z := by
  unfold apTab at h
  split at h
  · rename_i e' xd h1 h2
    cases hi : isIntD xd
    · rw [hi] at h
      simp only [cond_false] at h
      split at h
      · rename_i s b z h3 h4 h5; cases h; exact ⟨h1, ⟨xd, h2, hi⟩, h3, h4, z, h5⟩
      · cases h
    · rw [hi] at h; cases h
  · cases h
theorem sd_grow (t : Nat) (st xt e : TypeId) (s0 by_ b len n nb : Nat) (x : Value) (xs new ys : List Value) (ho : okOp c t = true) (hs : strictC c = true) (hA : apOf c = some (st, xt, .slice (some ⟨b, 0, none⟩) len (unk + (s0 + 1)), x)) (hT : apTab T st xt = some (e, s0, by_))
    (g : c.s.H.get b = some ⟨xs, e, false⟩) (hxs : xs.length = len * (s0 + 1)) (hsrc : asrc (s0 + 1) x c.s.H = some (n, new)) (hone : new.all Ev.one = true) (hn : 0 < n) (hne : (blockOf x == some b) = false) (hbig : (len + n) * (by_ + 1) ≤ 140737488355328) (hnb : c.s.H.n = nb) (hy : xs ++ new = ys)
    (hk : SD P T X Q (c.put t (.slice (some ⟨nb, 0, none⟩) (len + n) (unk + (s0 + 1))) ((c.s.H.kill b).push ⟨ys, e, false⟩))) : SD P T X Q c := by
  obtain ⟨k1, ⟨xd, k2, k3⟩, k4, k5, z, k6⟩ := apTab_spec hT
  subst hnb hy
  exact sd_ap t st xt _ x _ _ ho hs hA (aappend_grow k1 k2 k3 k4 k5 k6 g hxs hsrc hone hn (by simpa using hne) hbig) hk
/-- A row behind a row that is nil. -/
theorem sd_first (t : Nat) (st xt e : TypeId) (s0 by_ n nb : Nat) (x : Value) (new ys : List Value) (ho : okOp c t = true) (hs : strictC c = true) (hA : apOf c = some (st, xt, .slice none 0 0, x)) (hT : apTab T st xt = some (e, s0, by_))
    (hsrc : asrc (s0 + 1) x c.s.H = some (n, new)) (hn : 0 < n) (hbig : n * (by_ + 1) ≤ 140737488355328) (hnb : c.s.H.n = nb) (hy : new = ys)
    (hk : SD P T X Q (c.put t (.slice (some ⟨nb, 0, none⟩) n (unk + (s0 + 1))) (c.s.H.push ⟨ys, e, false⟩))) : SD P T X Q c := by
  obtain ⟨k1, ⟨xd, k2, k3⟩, k4, k5, z, k6⟩ := apTab_spec hT
  subst hnb hy
  exact sd_ap t st xt _ x _ _ ho hs hA (aappend_nil k1 k2 k3 k4 k5 k6 hsrc hn hbig) hk
theorem asrc_tab {α : Type} {enc : α → List Value} {s b n cap : Nat} (hs : ∀ a, (enc a).length = s) {l : List α} {H : Heap} {e : TypeId} {ro : Bool} (g : H.get b = some ⟨tab enc l, e, ro⟩) (hn : n = l.length) : asrc s (.slice (some ⟨b, 0, none⟩) n cap) H = some (n, tab enc l) := by
  subst hn
  exact asrc_blk g (by rw [List.drop_zero, List.take_of_length_le]; rw [tab_len hs]; exact Nat.le_refl _) (tab_len hs l)
def mkOf (c : Cf) : Option (TypeId × Value × Value) := match (opC c).op with
  | .makeSlice t l k => (match aeval c.s.tm l, aeval c.s.tm k with | some u, some v => some (t, u, v) | _, _ => none)
  | _ => none
/-- A row's element type, its bytes, its zero. -/
def mkTab (T : Tab) (t : TypeId) : Option (TypeId × Nat × List Value) := match T.under t with
  | some (.slice e) => (match T.bytes e, T.size e, T.zero e with | some b, some (_ + 1), some z => bif closed z then some (e, b, z.cells.toList) else none | _, _, _ => none)
  | _ => none
theorem amake_n {t e : TypeId} {by_ n : Nat} {z : List Value} {k1 k2 : IntKind} {H : Heap} (h : mkTab T t = some (e, by_, z)) (h1 : by_ * n ≤ 140737488355328) (h2 : n ≤ 4611686018427387904) : amakeSlice T t (.int k1 (n : Int)) (.int k2 (n : Int)) H = some (.slice (some ⟨H.n, 0, none⟩) n n, H.push ⟨zerosOf z n, e, false⟩) := by
  unfold mkTab at h
  split at h
  · rename_i e' hu
    split at h
    · rename_i b s z' hb hs hz
      cases hc : closed z'
      · rw [hc] at h; cases h
      · rw [hc] at h
        cases h
        have e1 : n.ble n = true := Nat.ble_eq_true_of_le (Nat.le_refl _)
        have e2 : (by_ * n).ble 140737488355328 = true := Nat.ble_eq_true_of_le h1
        have e3 : n.ble 4611686018427387904 = true := Nat.ble_eq_true_of_le h2
        unfold amakeSlice
        have e4 : ∀ k : IntKind, nats (.int k (n : Int)) = some n := fun _ => rfl
        simp only [hu, e4, hb, hs, hz, e1, e2, e3, hc, Bool.and_self, cond_true]
    · cases h
  · cases h
theorem sd_make (t : Nat) (ty e : TypeId) (by_ n nb : Nat) (k1 k2 : IntKind) (z ys : List Value) (ho : okOp c t = true) (hs : strictC c = true) (hA : mkOf c = some (ty, .int k1 (n : Int), .int k2 (n : Int))) (hT : mkTab T ty = some (e, by_, z)) (h1 : by_ * n ≤ 140737488355328) (h2 : n ≤ 4611686018427387904) (hnb : c.s.H.n = nb) (hy : zerosOf z n = ys)
    (hk : SD P T X Q (c.put t (.slice (some ⟨nb, 0, none⟩) n n) (c.s.H.push ⟨ys, e, false⟩))) : SD P T X Q c := by
  subst hnb hy
  refine sd_val t _ _ ho hs ?_ hk
  unfold mkOf at hA
  unfold aop
  split at hA
  · rename_i ty' l k hop
    split at hA
    · rename_i u v hu hv; cases hA; simp only [hop, hu, hv, amake_n hT h1 h2, val2]
    · cases hA
  · cases hA
/-- Its cells, looked at, when it is a row of unknown room: a part of it. -/
theorem sd_part (t : Nat) (b off len lo hi size : Nat) (ho : okOp c t = true) (hs : strictC c = true)
    (h1 : aop P T c.s.tm (opC c) c.s.H = val (bif lo.ble hi && hi.ble len then some (.slice (some ⟨b, off, none⟩) (hi - lo) (unk + size)) else none) c.s.H) (h2 : lo ≤ hi) (h3 : hi ≤ len)
    (hk : SD P T X Q (c.put t (.slice (some ⟨b, off, none⟩) (hi - lo) (unk + size)) c.s.H)) : SD P T X Q c :=
  sd_if t _ _ ho hs h1 (by rw [Bool.and_eq_true]; exact ⟨Nat.ble_eq_true_of_le h2, Nat.ble_eq_true_of_le h3⟩) hk
/-- A contract that makes nothing that stays. -/
theorem sd_callp (t : Nat) (f : FuncId) (args : Array Value) {R : Value → Heap → Prop} {args0 : Array Value} {l : List (Option Ob)} (hc : SCall P T f args0 (hq l) R) (g : List (Option Nat)) (ho : okOp c t = true) (hs : strictC c = true)
    (ha : aop P T c.s.tm (opC c) c.s.H = some (.enter f args, c.s.H)) (hg : HN (emOf g) (hq l) c.s.H) (hr : rnG (rn2 (emOf g)) args0.toList = some args.toList)
    (hk : ∀ v k1, R v k1 → k1 = hq l ∧ ∃ w, rn2 ((emOf g).ext l.length c.s.H.n) v = some w ∧ SD P T X Q (c.put t w c.s.H)) : SD P T X Q c :=
  sd_wf fun hwf => sd_call t f args hc (emOf g) ho hs ha hg (rnG_sound rn2_sound _ _ hr) fun v k1 h => by
    obtain ⟨rfl, w, h1, h2⟩ := hk v k1 h
    exact ⟨w, c.s.H, Glue.refl hg hwf, rn2_sound _ _ h1, h2⟩
/-! The same in regions whose order is drawn -/
section
variable {c : Vf}
theorem sv_run [OrcDat T] (k : Nat) (h : SV P T X Q (goV P T k c)) : SV P T X Q c := sv_go k h
def ldV (c : Vf) : Option (TypeId × Value) := match (hdO c.l).op with
  | .load ty a => (match aeval c.s.tm a with | some u => some (ty, u) | none => none)
  | _ => none
theorem sv_ld (t : Nat) (v : Value) (ty : TypeId) (p : Value) (ho : okV c.n c.ops c.s c.l t = true) (hs : strictV c = true) (h1 : ldV c = some (ty, p)) (hl : aload T ty p c.s.H = some v) (hn : (lookO T (hdO c.l).op && lkat T c.ops c.k) = false) (hk : SV P T X Q (c.put t v c.s.H)) : SV P T X Q c := by
  refine sv_val t v c.s.H ho hs ?_ (fun _ b _ => rfl) hn hk
  unfold ldV at h1
  unfold aop
  split at h1
  · rename_i ty' a hop
    split at h1
    · rename_i u hu; cases h1; simp only [hop, hu, hl, val]
    · cases h1
  · cases h1
/-- A read that may change places. -/
theorem sv_rd (t : Nat) (v : Value) (ty : TypeId) (b off : Nat) (ho : okV c.n c.ops c.s c.l t = true) (hs : strictV c = true) (h1 : ldV c = some (ty, .pointer (some ⟨b, off, none⟩))) (hl : aload T ty (.pointer (some ⟨b, off, none⟩)) c.s.H = some v) (hvv : veq v v = true) (hb : b.blt c.hS.n = true) (hk : SV P T X Q (c.put t v c.s.H)) : SV P T X Q c := by
  unfold ldV at h1
  split at h1
  · rename_i ty' a hop
    split at h1
    · rename_i u hu
      cases h1
      refine sv_look t v _ a ho hs (by rw [hop]; rfl) hu (by rw [hop]; exact hl) hvv (lowB_ptr (Nat.le_of_ble_eq_true hb)) hk
    · cases h1
  · cases h1
theorem sv_ix (t : Nat) (v : Value) (i len : Nat) (ho : okV c.n c.ops c.s c.l t = true) (hs : strictV c = true) (h1 : aop P T c.s.tm (hdO c.l) c.s.H = val (bif i.blt len then some v else none) c.s.H) (hi : i < len) (hn : (lookO T (hdO c.l).op && lkat T c.ops c.k) = false) (hk : SV P T X Q (c.put t v c.s.H)) : SV P T X Q c := by
  refine sv_val t v c.s.H ho hs ?_ (fun _ b _ => rfl) hn hk
  rw [h1, show i.blt len = true from (by rw [blt_dec]; simp [hi])]
  rfl
theorem sv_if (t : Nat) (v : Value) (b : Bool) (ho : okV c.n c.ops c.s c.l t = true) (hs : strictV c = true) (h1 : aop P T c.s.tm (hdO c.l) c.s.H = val (bif b then some v else none) c.s.H) (hb : b = true) (hn : (lookO T (hdO c.l).op && lkat T c.ops c.k) = false) (hk : SV P T X Q (c.put t v c.s.H)) : SV P T X Q c := by
  refine sv_val t v c.s.H ho hs ?_ (fun _ b _ => rfl) hn hk
  rw [h1, hb]
  rfl
def stV (c : Vf) : Option (TypeId × Value × Value) := match (hdO c.l).op with
  | .store ty a x => (match aeval c.s.tm a, aeval c.s.tm x with | some u, some v => some (ty, u, v) | _, _ => none)
  | _ => none
theorem sv_st (ty : TypeId) (b off : Nat) (x : Value) (l : List Value) {cells : List Value} {e : TypeId} (he : c.l.isEmpty = false) (hw : awanted c.ops c.s.tm (hdO c.l) = true) (hd : (hdO c.l).dst = none) (hs : strictV c = true) (h1 : stV c = some (ty, .pointer (some ⟨b, off, none⟩), x)) (g : c.s.H.get b = some ⟨cells, e, false⟩) (h : astoreC T ty cells off x = some l)
    (hq : calm T c.ops c.k = false) (hk : SV P T X Q (c.skp (c.s.H.put b ⟨l, e, false⟩))) : SV P T X Q c := by
  refine sv_skip _ he hw hd hs ?_ (calm_no hq) hk
  unfold stV at h1
  unfold aop
  split at h1
  · rename_i ty' a y hop
    split at h1
    · rename_i u v hu hv; cases h1; simp only [hop, hu, hv, astore_to g h, skp]
    · cases h1
  · cases h1
def apV (c : Vf) : Option (TypeId × TypeId × Value × Value) := match (hdO c.l).op with
  | .call cl => (match cl.callee, cl.argTypes.toList, aevals c.s.tm cl.args.toList with | .builtin .append, [st, xt], some [s, x] => some (st, xt, s, x) | _, _, _ => none)
  | _ => none
theorem sv_ap (t : Nat) (st xt : TypeId) (s x v : Value) (h1 : Heap) (ho : okV c.n c.ops c.s c.l t = true) (hs : strictV c = true) (hA : apV c = some (st, xt, s, x)) (ha : aappend T st xt s x c.s.H = some (v, h1)) (hq : calm T c.ops c.k = false) (hk : SV P T X Q (c.put t v h1)) : SV P T X Q c := by
  unfold apV at hA
  split at hA
  · rename_i cl hop
    split at hA
    · rename_i st' xt' s' x' e1 e2 e3
      cases hA
      refine sv_val t v h1 ho hs ?_ (calm_no hq) (by simp [lookO, cls, hop, e1]) hk
      unfold aop
      simp only [hop, acall, e1, e2, e3, ha, val2]
    · cases hA
  · cases hA
theorem sv_grow (t : Nat) (st xt e : TypeId) (s0 by_ b len n nb : Nat) (x : Value) (xs new ys : List Value) (ho : okV c.n c.ops c.s c.l t = true) (hs : strictV c = true) (hA : apV c = some (st, xt, .slice (some ⟨b, 0, none⟩) len (unk + (s0 + 1)), x)) (hT : apTab T st xt = some (e, s0, by_))
    (g : c.s.H.get b = some ⟨xs, e, false⟩) (hxs : xs.length = len * (s0 + 1)) (hsrc : asrc (s0 + 1) x c.s.H = some (n, new)) (hone : new.all Ev.one = true) (hn : 0 < n) (hne : (blockOf x == some b) = false) (hbig : (len + n) * (by_ + 1) ≤ 140737488355328) (hnb : c.s.H.n = nb) (hy : xs ++ new = ys)
    (hq : calm T c.ops c.k = false) (hk : SV P T X Q (c.put t (.slice (some ⟨nb, 0, none⟩) (len + n) (unk + (s0 + 1))) ((c.s.H.kill b).push ⟨ys, e, false⟩))) : SV P T X Q c := by
  obtain ⟨k1, ⟨xd, k2, k3⟩, k4, k5, z, k6⟩ := apTab_spec hT
  subst hnb hy
  exact sv_ap t st xt _ x _ _ ho hs hA (aappend_grow k1 k2 k3 k4 k5 k6 g hxs hsrc hone hn (by simpa using hne) hbig) hq hk
theorem sv_first (t : Nat) (st xt e : TypeId) (s0 by_ n nb : Nat) (x : Value) (new ys : List Value) (ho : okV c.n c.ops c.s c.l t = true) (hs : strictV c = true) (hA : apV c = some (st, xt, .slice none 0 0, x)) (hT : apTab T st xt = some (e, s0, by_))
    (hsrc : asrc (s0 + 1) x c.s.H = some (n, new)) (hn : 0 < n) (hbig : n * (by_ + 1) ≤ 140737488355328) (hnb : c.s.H.n = nb) (hy : new = ys)
    (hq : calm T c.ops c.k = false) (hk : SV P T X Q (c.put t (.slice (some ⟨nb, 0, none⟩) n (unk + (s0 + 1))) (c.s.H.push ⟨ys, e, false⟩))) : SV P T X Q c := by
  obtain ⟨k1, ⟨xd, k2, k3⟩, k4, k5, z, k6⟩ := apTab_spec hT
  subst hnb hy
  exact sv_ap t st xt _ x _ _ ho hs hA (aappend_nil k1 k2 k3 k4 k5 k6 hsrc hn hbig) hq hk
theorem sv_wf (h : (∀ b o, c.s.H.get b = some o → b < c.s.H.n) → SV P T X Q c) : SV P T X Q c := fun eS HS hS e H tm' K' hx => h hx.hn.wf eS HS hS e H tm' K' hx
theorem sv_callp (t : Nat) (f : FuncId) (args : Array Value) {R : Value → Heap → Prop} {args0 : Array Value} {l : List (Option Ob)} (hc : SCall P T f args0 (hq l) R) (g : List (Option Nat)) (ho : okV c.n c.ops c.s c.l t = true) (hs : strictV c = true)
    (ha : aop P T c.s.tm (hdO c.l) c.s.H = some (.enter f args, c.s.H)) (hg : HN (emOf g) (hq l) c.s.H) (hr : rnG (rn2 (emOf g)) args0.toList = some args.toList)
    (hk : ∀ v k1, R v k1 → k1 = hq l ∧ ∃ w, rn2 ((emOf g).ext l.length c.s.H.n) v = some w ∧ SV P T X Q (c.put t w c.s.H)) : SV P T X Q c :=
  sv_wf fun hwf => sv_call t f args hc (emOf g) ho hs ha hg (rnG_sound rn2_sound _ _ hr) fun v k1 h => by
    obtain ⟨rfl, w, h1, h2⟩ := hk v k1 h
    exact ⟨w, c.s.H, Glue.refl hg hwf, rn2_sound _ _ h1, fun _ _ _ => rfl, h2⟩
end
/-- A contract of data. -/
theorem SCall.data {f : FuncId} {args : Array Value} {v : Value} (hc : SCall P T f args (hq []) fun r h => r = v ∧ h = hq []) (ha : args.toList.all closed = true) (hv : closed v = true) : ACall P T f args ⟨.lf, 0⟩ fun r _ => r = v :=
  hc.at_ (fun _ => none) ⟨fun b o h => (by simp [hq_get] at h), fun b x h => (by cases h), fun b c h => (by cases h), fun b c o h => (by simp [hq_get] at h), fun b o h => (by simp [hq_get] at h), fun b1 b2 c h => (by cases h)⟩
    ⟨rfl, fun i x hx => ⟨x, hx, .of_closed (List.all_eq_true.1 ha x (List.mem_of_getElem? hx))⟩⟩ fun w h1 e1 v' H1 h _ _ hr => by
      rw [h.1] at hr
      exact hr.closed_eq hv
end
end Go.Ev
