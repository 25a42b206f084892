/- Chapter 19: values; what gcode tells of a number. -/
import Derived.Test.YtgpphhdndmdlgaaDoorKb
namespace Go.Proofs.YtgpphhdndmdlgaaDoor
open Go Go.Ev Go.RowKit
set_option linter.unusedVariables false
set_option linter.unusedSimpArgs false
set_option maxRecDepth 100000
namespace Ls
def iiC (x : Int × Int × Int × Int × Int) : List Value := [.int .i64 x.1, .int .i64 x.2.1, .int .i64 x.2.2.1, .int .i64 x.2.2.2.1, .int .u32 x.2.2.2.2]
theorem iiC_len : ∀ x, (iiC x).length = 5 := fun _ => rfl
theorem iiC_pl : ∀ x, (iiC x).all plain = true := fun _ => rfl
def inC (x : Int) : List Value := [.int .i64 x]
theorem inC_len : ∀ x, (inC x).length = 1 := fun _ => rfl
theorem inC_pl : ∀ x, (inC x).all plain = true := fun _ => rfl
def uC (x : Int) : List Value := [.int .u32 x]
theorem uC_len : ∀ x, (uC x).length = 1 := fun _ => rfl
theorem uC_pl : ∀ x, (uC x).all plain = true := fun _ => rfl
structure Sx where
 pc : Int
 fl : Int
 root : Int
 vec : Int
 epc : Int
 cause : Int
 addr : Int
 cnt : Int
 su : Bool
 pg : Bool
 ie : Bool
 es : Bool
 ei : Bool
 ha : Bool
abbrev s1 (b n : Nat) : Value := .slice (some ⟨b, 0, none⟩) n (unk + 1)
abbrev s2 (b n : Nat) : Value := .slice (some ⟨b, 0, none⟩) n (unk + 2)
abbrev s5 (b n : Nat) : Value := .slice (some ⟨b, 0, none⟩) n (unk + 5)
abbrev slw (pc : Int) (d r : Value) (fl : Int) (su pg ie : Bool) (root vec epc cause addr : Int) (es ei : Bool) (cnt : Int) (ha : Bool) : List Value := [.int .u32 pc, d, r, .int .u32 fl, .bool su, .bool pg, .bool ie, .int .u32 root, .int .u32 vec, .int .u32 epc, .int .u32 cause, .int .u32 addr, .bool es, .bool ei, .int .u64 cnt, .bool ha]
abbrev stq (q : Sx) (pc : Int) (d r : Value) (fl cnt : Int) : Value := .agg #[.int .u32 pc, d, r, .int .u32 fl, .bool q.su, .bool q.pg, .bool q.ie, .int .u32 q.root, .int .u32 q.vec, .int .u32 q.epc, .int .u32 q.cause, .int .u32 q.addr, .bool q.es, .bool q.ei, .int .u64 cnt, .bool q.ha]
abbrev slq (q : Sx) (pc : Int) (d r : Value) (fl cnt : Int) : List Value := [.int .u32 pc, d, r, .int .u32 fl, .bool q.su, .bool q.pg, .bool q.ie, .int .u32 q.root, .int .u32 q.vec, .int .u32 q.epc, .int .u32 q.cause, .int .u32 q.addr, .bool q.es, .bool q.ei, .int .u64 cnt, .bool q.ha]
abbrev pgV (c : Value) (nd nr hd hr : Int) (od rd : Value) (fl nx tg br tk ct vs : Int) : Value := .agg #[c, .int .i64 nd, .int .i64 nr, .int .i64 hd, .int .i64 hr, od, rd, .int .i64 fl, .int .u32 nx, .int .i64 tg, .int .i64 br, .int .u32 tk, .int .i64 ct, .int .i64 vs]
abbrev c5A (a b c d e : Int) : Value := .agg #[.int .i64 a, .int .i64 b, .int .i64 c, .int .i64 d, .int .u32 e]
abbrev c5L (a b c d e : Int) : List Value := [.int .i64 a, .int .i64 b, .int .i64 c, .int .i64 d, .int .u32 e]
abbrev pgL (c : Value) (nd nr hd hr : Int) (od rd : Value) (fl nx tg br tk ct vs : Int) : List Value := [c, .int .i64 nd, .int .i64 nr, .int .i64 hd, .int .i64 hr, od, rd, .int .i64 fl, .int .u32 nx, .int .i64 tg, .int .i64 br, .int .u32 tk, .int .i64 ct, .int .i64 vs]
abbrev pg0 : List Value := [.slice none 0 0, .int .i64 0, .int .i64 0, .int .i64 0, .int .i64 0, .slice none 0 0, .slice none 0 0, .int .i64 0, .int .u32 0, .int .i64 0, .int .i64 0, .int .u32 0, .int .i64 0, .int .i64 0]
theorem brn {f : Em} {h : Heap} {c : Nat} {o : Ob} (h1 : h.get c = obRn f o := by kernel_rfl) (h2 : (obRn f o).isSome = true := by kernel_rfl) : Bk f h c o := bk_ren h1 h2
theorem cvo {l : List (Option Nat)} {k k1 h : Heap} {c : Nat} {o : Ob} (h1 : (c.blt h.n && l.all (fun x => match x with | some d => !d.beq c | none => true)) = true := by kernel_rfl) (h2 : h.get c = some o := by kernel_rfl) : CovAt (emOf l) k k1 h c o := cov_old h1 h2
theorem bd : (∀ (p : Prop) [Decidable p], (decide p = true) = p) ∧ (∀ (p : Prop) [Decidable p], (decide p = false) = ¬ p) ∧ (∀ a b : Int, ((a == b) = true) = (a = b)) ∧ (∀ a b : Int, ((a == b) = false) = ¬ a = b) ∧ (∀ a b : Int, ((a != b) = true) = ¬ a = b) ∧ (∀ a b : Int, ((a != b) = false) = (a = b)) ∧ (∀ a b : Int, (a > b) = (b < a)) ∧ (∀ a b : Int, (a ≥ b) = (b ≤ a)) ∧ (∀ a b : Int, (¬ a ≤ b) = (b < a)) ∧ (∀ a b : Int, (¬ a < b) = (b ≤ a)) ∧ (∀ b : Bool, (¬ b = true) = (b = false)) ∧ (∀ b : Bool, (¬ b = false) = (b = true)) ∧ (∀ b : Bool, ((!b) = true) = (b = false)) ∧ (∀ b : Bool, ((!b) = false) = (b = true)) := by
 refine ⟨fun p _ => by simp, fun p _ => by simp, fun a b => by simp, fun a b => by simp, fun a b => by simp, fun a b => by simp, fun a b => rfl, fun a b => rfl, fun a b => by simp, fun a b => by simp, fun b => by simp, fun b => by simp, fun b => by simp, fun b => by simp⟩
section
variable {P : Program} {T : Tab} {X : Cx} {Q : Xt → St → Prop} {c : Cf}
theorem sdT (t : Nat) (p : Prop) [Decidable p] (h : p) (hr : c.s.tm.get t = some (.bool (decide p))) (hk : SD P T X Q (c.see t (.bool true))) : SD P T X Q c := sd_see t _ (see_bool hr (decide_eq_true h)) hk
theorem sdF (t : Nat) (p : Prop) [Decidable p] (h : ¬ p) (hr : c.s.tm.get t = some (.bool (decide p))) (hk : SD P T X Q (c.see t (.bool false))) : SD P T X Q c := sd_see t _ (see_bool hr (decide_eq_false h)) hk
theorem sdE (t : Nat) (x y : Int) (h : x = y) (hr : c.s.tm.get t = some (.bool (x == y))) (hk : SD P T X Q (c.see t (.bool true))) : SD P T X Q c := sd_see t _ (see_bool hr (beq_iff_eq.2 h)) hk
theorem sdN (t : Nat) (x y : Int) (h : x ≠ y) (hr : c.s.tm.get t = some (.bool (x == y))) (hk : SD P T X Q (c.see t (.bool false))) : SD P T X Q c := sd_see t _ (see_bool hr (beq_eq_false_iff_ne.2 h)) hk
theorem sdP (t : Nat) (x y : Int) (h : x ≠ y) (hr : c.s.tm.get t = some (.bool (x != y))) (hk : SD P T X Q (c.see t (.bool true))) : SD P T X Q c := sd_see t _ (see_bool hr (bne_iff_ne.2 h)) hk
theorem sdZ {rs : Array ResultVar} {R : Value → Heap → Prop} (v : Value) {n0 : Nat} (h0 : X.h0.n = n0) (w : Value) (obs : List (Option Ob)) (l : List (Option Nat)) (hb : Blks (emOf l) c.s.H obs l) (hr : R w (hq obs)) (he : atEnd c = true := by kernel_rfl) (hp : rs.toList.all (presR c.s.tm) = true := by kernel_rfl) (hv : aresults T c.s.tm c.s.H rs = some v := by kernel_rfl) (hl : subG n0 c.s.H obs 0 obs l [] = true := by kernel_rfl) (hle : n0.ble l.length = true := by kernel_rfl) (hw : rn2 (emOf l) w = some v := by kernel_rfl) : SD P T X (QF T X rs R) c := sd_end v h0 he hp hv w (hq obs) (emOf l) (sub_of hl hle hb) (rn2_sound _ _ hw) hr
theorem sdY {rs : Array ResultVar} {R : Value → Heap → Prop} (v : Value) {n0 : Nat} (h0 : X.h0.n = n0) (obs : List (Option Ob)) (l : List (Option Nat)) (hb : Blks (emOf l) c.s.H obs l) (hr : R v (hq obs)) (he : atEnd c = true := by kernel_rfl) (hp : rs.toList.all (presR c.s.tm) = true := by kernel_rfl) (hv : aresults T c.s.tm c.s.H rs = some v := by kernel_rfl) (hl : subG n0 c.s.H obs 0 obs l [] = true := by kernel_rfl) (hle : n0.ble l.length = true := by kernel_rfl) (hw : rn2 (emOf l) v = some v := by kernel_rfl) : SD P T X (QF T X rs R) c := sdZ v h0 v obs l hb hr he hp hv hl hle hw
theorem sdC (t : Nat) (f : FuncId) (args : Array Value) {R : Value → Heap → Prop} {args0 : Array Value} {obs : List (Option Ob)} (hc : SCall P T f args0 (hq obs) R) (l : List (Option Nat)) (hb : Blks (emOf l) c.s.H obs l) (hk : HN (emOf l) (hq obs) c.s.H → ∀ v k1, R v k1 → ∃ w h1, Glue (emOf l) (hq obs) k1 c.s.H h1 ∧ RN ((emOf l).ext (hq obs).n c.s.H.n) v w ∧ SD P T X Q (c.put t w h1)) (ho : okOp c t = true := by kernel_rfl) (hs : strictC c = true := by kernel_rfl) (ha : aop P T c.s.tm (opC c) c.s.H = some (.enter f args, c.s.H) := by kernel_rfl) (hl : subGo 0 c.s.H.n 0 l [] = true := by kernel_rfl) (hr : rnG (rn2 (emOf l)) args0.toList = some args.toList := by kernel_rfl) : SD P T X Q c := sd_call t f args hc (emOf l) ho hs ha (hn_of 0 hl hb) (rnG_sound rn2_sound _ _ hr) (hk (hn_of 0 hl hb))
theorem mkG {g : Em} {k k1 : Heap} {t : Nat} {v : Value} (w : Value) (l : List (Option Ob)) (hc : Covs g k k1 c.s.H 0 l) (hs : SD P T X Q (c.put t w (hq l))) (hn : l.length.beq (c.s.H.n + (k1.n - k.n)) = true := by kernel_rfl) (hl : k.n.ble k1.n = true := by kernel_rfl) (hr : rn2 (g.ext k.n c.s.H.n) v = some w := by kernel_rfl) : ∃ w h1, Glue g k k1 c.s.H h1 ∧ RN (g.ext k.n c.s.H.n) v w ∧ SD P T X Q (c.put t w h1) := ⟨w, hq l, glue_of hn hl hc, rn2_sound _ _ hr, hs⟩
theorem sdCp (t : Nat) (f : FuncId) (args : Array Value) {R : Value → Heap → Prop} {args0 : Array Value} {obs : List (Option Ob)} (hc : SCall P T f args0 (hq obs) R) (l : List (Option Nat)) (hb : Blks (emOf l) c.s.H obs l) (hk : ∀ v k1, R v k1 → k1 = hq obs ∧ ∃ w, rn2 ((emOf l).ext obs.length c.s.H.n) v = some w ∧ SD P T X Q (c.put t w c.s.H)) (ho : okOp c t = true := by kernel_rfl) (hs : strictC c = true := by kernel_rfl) (ha : aop P T c.s.tm (opC c) c.s.H = some (.enter f args, c.s.H) := by kernel_rfl) (hl : subGo 0 c.s.H.n 0 l [] = true := by kernel_rfl) (hr : rnG (rn2 (emOf l)) args0.toList = some args.toList := by kernel_rfl) : SD P T X Q c := sd_callp t f args hc l ho hs ha (hn_of 0 hl hb) hr hk
theorem sdQ (t : Nat) (x y : Int) (h : x = y) (hr : c.s.tm.get t = some (.bool (x != y))) (hk : SD P T X Q (c.see t (.bool false))) : SD P T X Q c := sd_see t _ (see_bool hr (bne_eq_false_iff_eq.2 h)) hk
end
theorem cvs {f : Em} {k k1 h : Heap} {c : Nat} {o : Ob} (b : Nat) (hf : HN f k h) (hle : k.n.ble k1.n = true := by kernel_rfl) (h0 : isNm f b c = true := by kernel_rfl) (h1 : k1.get b = k.get b := by kernel_rfl) (hs : (k.get b).isSome = true := by kernel_rfl) (h2 : h.get c = some o := by kernel_rfl) : CovAt f k k1 h c o := cov_same b hf hle h0 h1 hs h2
abbrev i1_ : List (Option Nat) := [some 0]
abbrev e1_ : Em := emOf i1_
abbrev i2_ : List (Option Nat) := [some 0, some 1]
abbrev e2_ : Em := emOf i2_
abbrev i3_ : List (Option Nat) := [some 0, some 1, some 2]
abbrev i4_ : List (Option Nat) := [some 0, some 1, some 2, some 3]
abbrev e4_ : Em := emOf i4_
abbrev i5_ : List (Option Nat) := [some 0, some 1, some 2, some 3, some 4]
abbrev e5_ : Em := emOf i5_
abbrev i6_ : List (Option Nat) := [some 0, some 1, some 2, some 3, some 4, some 5]
abbrev i7_ : List (Option Nat) := [some 0, some 1, some 2, some 3, some 4, some 5, some 6]
abbrev i8_ : List (Option Nat) := [some 0, some 1, some 2, some 3, some 4, some 5, some 6, some 7]
abbrev i9_ : List (Option Nat) := [some 0, some 1, some 2, some 3, some 4, some 5, some 6, some 7, some 8]
abbrev e9_ : Em := emOf i9_
abbrev i10_ : List (Option Nat) := [some 0, some 1, some 2, some 3, some 4, some 5, some 6, some 7, some 8, some 9]
abbrev e10_ : Em := emOf i10_
abbrev i11_ : List (Option Nat) := [some 0, some 1, some 2, some 3, some 4, some 5, some 6, some 7, some 8, some 9, some 10]
abbrev e11_ : Em := emOf i11_
abbrev i12_ : List (Option Nat) := [some 0, some 1, some 2, some 3, some 4, some 5, some 6, some 7, some 8, some 9, some 10, some 11]
abbrev e12_ : Em := emOf i12_
abbrev iiCo (l : List (Int × Int × Int × Int × Int)) (ro : Bool) : Option Ob := some ⟨tab iiC l, 41, ro⟩
theorem iiC_b {f : Em} {h : Heap} {c e : Nat} {l : List (Int × Int × Int × Int × Int)} {ro : Bool} (h1 : h.get c = some ⟨tab iiC l, e, ro⟩ := by kernel_rfl) : Bk f h c ⟨tab iiC l, e, ro⟩ := bk_flat _ h1 (tab_plain iiC_pl _) rfl
theorem iiC_c {f : Em} {k k1 h : Heap} {c e : Nat} {l : List (Int × Int × Int × Int × Int)} {ro : Bool} (b : Nat) (h0 : (b.blt k1.n && isNm (f.ext k.n h.n) b c) = true := by kernel_rfl) (h1 : k1.get b = some ⟨tab iiC l, e, ro⟩ := by kernel_rfl) : CovAt f k k1 h c ⟨tab iiC l, e, ro⟩ := cov_flat b h0 h1 (tab_plain iiC_pl _)
abbrev inCo (l : List (Int)) (ro : Bool) : Option Ob := some ⟨tab inC l, 3, ro⟩
theorem inC_b {f : Em} {h : Heap} {c e : Nat} {l : List (Int)} {ro : Bool} (h1 : h.get c = some ⟨tab inC l, e, ro⟩ := by kernel_rfl) : Bk f h c ⟨tab inC l, e, ro⟩ := bk_flat _ h1 (tab_plain inC_pl _) rfl
theorem inC_c {f : Em} {k k1 h : Heap} {c e : Nat} {l : List (Int)} {ro : Bool} (b : Nat) (h0 : (b.blt k1.n && isNm (f.ext k.n h.n) b c) = true := by kernel_rfl) (h1 : k1.get b = some ⟨tab inC l, e, ro⟩ := by kernel_rfl) : CovAt f k k1 h c ⟨tab inC l, e, ro⟩ := cov_flat b h0 h1 (tab_plain inC_pl _)
abbrev uCo (l : List (Int)) (ro : Bool) : Option Ob := some ⟨tab uC l, 24, ro⟩
theorem uC_b {f : Em} {h : Heap} {c e : Nat} {l : List (Int)} {ro : Bool} (h1 : h.get c = some ⟨tab uC l, e, ro⟩ := by kernel_rfl) : Bk f h c ⟨tab uC l, e, ro⟩ := bk_flat _ h1 (tab_plain uC_pl _) rfl
theorem uC_c {f : Em} {k k1 h : Heap} {c e : Nat} {l : List (Int)} {ro : Bool} (b : Nat) (h0 : (b.blt k1.n && isNm (f.ext k.n h.n) b c) = true := by kernel_rfl) (h1 : k1.get b = some ⟨tab uC l, e, ro⟩ := by kernel_rfl) : CovAt f k k1 h c ⟨tab uC l, e, ro⟩ := cov_flat b h0 h1 (tab_plain uC_pl _)
abbrev II := Int × Int × Int × Int × Int
def valB (n k : Int) : Bool := decide (0 ≤ n) && decide (n < k)
def madeB (nd nr : Int) (x : II) (k : Int) : Bool :=
 decide (x.2.1 = k) && (if x.1 = 0 then decide (x.2.2.1 = 0) && decide (x.2.2.2.1 = 0)
  else if x.1 = 1 then (decide (x.2.2.1 = 0) && decide (x.2.2.2.1 = 0)) && decide (x.2.2.2.2 < nd)
  else if x.1 = 2 then (decide (x.2.2.1 = 0) && decide (x.2.2.2.1 = 0)) && decide (x.2.2.2.2 < nr)
  else if x.1 = 3 then (valB x.2.2.1 k && valB x.2.2.2.1 k) && (decide (16 ≤ x.2.2.2.2) && decide (x.2.2.2.2 ≤ 23))
  else if x.1 = 4 then (valB x.2.2.1 k && valB x.2.2.2.1 k) && ((decide (16 ≤ x.2.2.2.2) && decide (x.2.2.2.2 ≤ 23)) || decide (x.2.2.2.2 = 25))
  else false)
structure RightP (c : List II) (od rd : List Int) (nd nr hd hr fl tg br ct vs : Int) : Prop where
 vs_ : vs = c.length
 len : c.length ≤ 64
 nd_ : 0 ≤ nd ∧ nd ≤ 16
 nr_ : 0 ≤ nr ∧ nr ≤ 16
 hd_ : 0 ≤ hd ∧ hd ≤ 16
 hr_ : 0 ≤ hr ∧ hr ≤ 16
 ct_ : 1 ≤ ct ∧ ct ≤ 8
 code : ∀ (k : Nat) (x : II), c[k]? = some x → madeB nd nr x k = true
 od_ : ∀ (k : Nat) (x : Int), od[k]? = some x → valB x vs = true
 rd_ : ∀ (k : Nat) (x : Int), rd[k]? = some x → valB x vs = true
 fl_ : fl = -1 ∨ valB fl vs = true
 tg_ : tg = -1 ∨ valB tg vs = true
 br_ : br = 0 ∨ (33 ≤ br ∧ br ≤ 37 ∧ tg = -1)
noncomputable instance (c : List II) (od rd : List Int) (nd nr hd hr fl tg br ct vs : Int) : Decidable (RightP c od rd nd nr hd hr fl tg br ct vs) := Classical.propDecidable _
noncomputable def rightB (c : List II) (od rd : List Int) (nd nr hd hr fl tg br ct vs : Int) : Bool := decide (RightP c od rd nd nr hd hr fl tg br ct vs)
theorem rightB_no {c : List II} {od rd : List Int} {nd nr hd hr fl tg br ct vs : Int} (h : RightP c od rd nd nr hd hr fl tg br ct vs → False) : rightB c od rd nd nr hd hr fl tg br ct vs = false := decide_eq_false h
theorem rightB_yes {c : List II} {od rd : List Int} {nd nr hd hr fl tg br ct vs : Int} (h : RightP c od rd nd nr hd hr fl tg br ct vs) : rightB c od rd nd nr hd hr fl tg br ct vs = true := decide_eq_true h
noncomputable def f35b : Code := Tryd.f35.body.getD .skip
theorem f35_body : Tryd.f35.body = some f35b := by kernel_rfl
theorem f35_fn : T6.fn 35 = some Tryd.f35 := by kernel_rfl
theorem value_s (a k : Int)  : SCall Tryd.prog T6 35 #[.int .i64 a, .int .i64 k] (hq []) fun v h => v = .bool (valB a k) ∧ h = hq [] := by
 refine scall_sd 12 _ 0 kr f35_fn f35_body rfl rfl rfl fun X hX => ?_
 refine sd_run 10 ?_
 rcases Bool.eq_false_or_eq_true (decide ((a : Int) ≥ 0)) with hc1 | hc1
 ·skip
  refine sd_see 7 (.bool true) (see_bool kr hc1) (sd_run 8 ?_)
  simp only [bd] at hc1
  refine sdY (.bool (decide ((a : Int) < k))) hX [] [] True.intro ⟨(by unfold valB; congr 1; simp [*]), rfl⟩
 ·skip
  refine sd_see 7 (.bool false) (see_bool kr hc1) (sd_run 8 ?_)
  simp only [bd] at hc1
  refine sdY (.bool false) hX [] [] True.intro ⟨(by unfold valB; congr 1; simp; omega), rfl⟩
def sp35 : List Value → Option Value
 | [.int .i64 a, .int .i64 k] => some (.bool (valB a k))
 | _ => none
noncomputable def T7 : Tab := { T6 with orc := addOrc T6.orc 35 sp35 }
theorem ok_T7 [Bs] : ProgOk Tryd.prog T7 := ok_T6.know 35 sp35 fun args v h => by
 unfold sp35 at h
 split at h
 ·rename_i a k; cases h; exact ⟨rfl, rfl, SCall.data (value_s a k) rfl rfl⟩
 ·cases h
instance : OrcDat T7 := orcDat_add inferInstance 35 sp35 fun l v h => by
 unfold sp35 at h
 split at h
 ·cases h; exact ⟨rfl, rfl⟩
 ·cases h
def namedB (op : Int) : Bool := (decide (0 ≤ op) && decide (op ≤ 8)) || (decide (16 ≤ op) && decide (op ≤ 25)) || (decide (32 ≤ op) && decide (op ≤ 40)) || (decide (48 ≤ op) && decide (op ≤ 53)) || (decide (64 ≤ op) && decide (op ≤ 69))
def sizeZ (op : Int) : Int := if op = 1 ∨ (32 ≤ op ∧ op ≤ 38) ∨ op = 66 ∨ op = 67 then 2 else if op = 2 then 5 else if namedB op = true then 1 else 0
def rightI (op n : Int) : Bool := decide (sizeZ op ≠ 0) && ((!decide (sizeZ op = 1) || decide (n = 0)) && (!decide (sizeZ op = 2) || decide (n ≤ 255)))
def endsB (op : Int) : Bool := (decide (32 ≤ op) && decide (op ≤ 40)) || (decide (64 ≤ op) && decide (op ≤ 69))
def plainB (op : Int) : Bool := (decide (0 ≤ op) && decide (op ≤ 8)) || (decide (32 ≤ op) && decide (op ≤ 40)) || (decide (16 ≤ op) && (decide (op ≤ 25) && decide (op ≠ 24)))
def signZ (n : Int) : Int := IntKind.u32.wrap (IntKind.i32.wrap (IntKind.i8.wrap n))
theorem named1 (op : Int) : (op < 0 ∨ (9 ≤ op ∧ op ≤ 15) ∨ (26 ≤ op ∧ op ≤ 31) ∨ (41 ≤ op ∧ op ≤ 47) ∨ (54 ≤ op ∧ op ≤ 63) ∨ 70 ≤ op) ∨ op = 0 ∨ op = 1 ∨ op = 2 ∨ op = 3 ∨ op = 4 ∨ op = 5 ∨ op = 6 ∨ op = 7 ∨ op = 8 ∨ op = 16 ∨ op = 17 ∨ op = 18 ∨ op = 19 ∨ op = 20 ∨ op = 21 ∨ op = 22 ∨ op = 23 ∨ op = 24 ∨ op = 25 ∨ op = 32 ∨ op = 33 ∨ op = 34 ∨ op = 35 ∨ op = 36 ∨ op = 37 ∨ op = 38 ∨ op = 39 ∨ op = 40 ∨ op = 48 ∨ op = 49 ∨ op = 50 ∨ op = 51 ∨ op = 52 ∨ op = 53 ∨ op = 64 ∨ op = 65 ∨ op = 66 ∨ op = 67 ∨ op = 68 ∨ op = 69 := by omega
theorem size_gap {op : Int} (h : op < 0 ∨ (9 ≤ op ∧ op ≤ 15) ∨ (26 ≤ op ∧ op ≤ 31) ∨ (41 ≤ op ∧ op ≤ 47) ∨ (54 ≤ op ∧ op ≤ 63) ∨ 70 ≤ op) : sizeZ op = 0 := by
 unfold sizeZ namedB
 rw [if_neg (by omega), if_neg (by omega), if_neg (by simp; omega)]
noncomputable def f47b : Code := Tryd.f47.body.getD .skip
theorem f47_body : Tryd.f47.body = some f47b := by kernel_rfl
theorem f47_fn : T7.fn 47 = some Tryd.f47 := by kernel_rfl
theorem lit47 {x : Int} (n : Nat) (v : Value) (he : atEnd (goS Tryd.prog T7 n ⟨20, .code f47b, [], ⟨initTm 0 #[.int .i64 x], hq []⟩⟩) = true := by kernel_rfl) (hp : Tryd.f47.results.toList.all (presR (goS Tryd.prog T7 n ⟨20, .code f47b, [], ⟨initTm 0 #[.int .i64 x], hq []⟩⟩).s.tm) = true := by kernel_rfl) (hv : aresults T7 (goS Tryd.prog T7 n ⟨20, .code f47b, [], ⟨initTm 0 #[.int .i64 x], hq []⟩⟩).s.tm (goS Tryd.prog T7 n ⟨20, .code f47b, [], ⟨initTm 0 #[.int .i64 x], hq []⟩⟩).s.H Tryd.f47.results = some v := by kernel_rfl) (hl : subG 0 (goS Tryd.prog T7 n ⟨20, .code f47b, [], ⟨initTm 0 #[.int .i64 x], hq []⟩⟩).s.H [] 0 [] [] [] = true := by kernel_rfl) (hw : rn2 (emOf []) v = some v := by kernel_rfl) (ho : T7.orc 47 #[.int .i64 x].toList = none := by kernel_rfl) : SCall Tryd.prog T7 47 #[.int .i64 x] (hq []) fun r h => r = v ∧ h = hq [] := by
 refine scall_sd 20 _ 0 ho f47_fn f47_body rfl rfl rfl fun X hX => ?_
 exact sd_run n (sdY v hX [] [] True.intro ⟨rfl, rfl⟩ he hp hv hl rfl hw)
set_option maxHeartbeats 1000000 in
theorem size_s (op : Int)  : SCall Tryd.prog T7 47 #[.int .i64 op] (hq []) fun v h => v = .int .i64 (sizeZ op) ∧ h = hq [] := by
 rcases named1 op with h | rfl | rfl | rfl | rfl | rfl | rfl | rfl | rfl | rfl | rfl | rfl | rfl | rfl | rfl | rfl | rfl | rfl | rfl | rfl | rfl | rfl | rfl | rfl | rfl | rfl | rfl | rfl | rfl | rfl | rfl | rfl | rfl | rfl | rfl | rfl | rfl | rfl | rfl | rfl | rfl
 ·skip
  refine scall_sd 20 _ 0 kr f47_fn f47_body rfl rfl rfl fun X hX => ?_
  refine sd_run 16 (sdN 5 (op : Int) 1 (by omega) kr (sd_run 7 (sdN 6 (op : Int) 32 (by omega) kr (sd_run 7 (sdN 7 (op : Int) 33 (by omega) kr (sd_run 7 (sdN 8 (op : Int) 34 (by omega) kr ?_)))))))
  refine sd_run 7 (sdN 9 (op : Int) 35 (by omega) kr (sd_run 7 (sdN 10 (op : Int) 36 (by omega) kr (sd_run 7 (sdN 11 (op : Int) 37 (by omega) kr (sd_run 7 (sdN 12 (op : Int) 38 (by omega) kr ?_)))))))
  refine sd_run 7 (sdN 13 (op : Int) 66 (by omega) kr (sd_run 6 (sdN 14 (op : Int) 67 (by omega) kr (sd_run 7 (sdN 16 (op : Int) 2 (by omega) kr (sd_run 27 (sdN 5 (op : Int) 0 (by omega) kr ?_)))))))
  refine sd_run 7 (sdN 7 (op : Int) 1 (by omega) kr (sd_run 7 (sdN 9 (op : Int) 2 (by omega) kr (sd_run 7 (sdN 11 (op : Int) 3 (by omega) kr (sd_run 7 (sdN 13 (op : Int) 4 (by omega) kr ?_)))))))
  refine sd_run 7 (sdN 15 (op : Int) 5 (by omega) kr (sd_run 7 (sdN 17 (op : Int) 6 (by omega) kr (sd_run 7 (sdN 19 (op : Int) 7 (by omega) kr (sd_run 7 (sdN 21 (op : Int) 8 (by omega) kr ?_)))))))
  refine sd_run 7 (sdN 23 (op : Int) 32 (by omega) kr (sd_run 7 (sdN 25 (op : Int) 33 (by omega) kr (sd_run 7 (sdN 27 (op : Int) 34 (by omega) kr (sd_run 7 (sdN 29 (op : Int) 35 (by omega) kr ?_)))))))
  refine sd_run 7 (sdN 31 (op : Int) 36 (by omega) kr (sd_run 7 (sdN 33 (op : Int) 37 (by omega) kr (sd_run 7 (sdN 35 (op : Int) 38 (by omega) kr (sd_run 7 (sdN 37 (op : Int) 39 (by omega) kr ?_)))))))
  refine sd_run 7 (sdN 39 (op : Int) 40 (by omega) kr (sd_run 26 (sdN 5 (op : Int) 16 (by omega) kr (sd_run 7 (sdN 7 (op : Int) 17 (by omega) kr (sd_run 7 (sdN 9 (op : Int) 18 (by omega) kr ?_)))))))
  refine sd_run 7 (sdN 11 (op : Int) 19 (by omega) kr (sd_run 7 (sdN 13 (op : Int) 20 (by omega) kr (sd_run 7 (sdN 15 (op : Int) 21 (by omega) kr (sd_run 7 (sdN 17 (op : Int) 22 (by omega) kr ?_)))))))
  refine sd_run 7 (sdN 19 (op : Int) 23 (by omega) kr (sd_run 7 (sdN 21 (op : Int) 24 (by omega) kr (sd_run 7 (sdN 23 (op : Int) 25 (by omega) kr (sd_run 7 (sdN 25 (op : Int) 48 (by omega) kr ?_)))))))
  refine sd_run 7 (sdN 27 (op : Int) 49 (by omega) kr (sd_run 7 (sdN 29 (op : Int) 50 (by omega) kr (sd_run 7 (sdN 31 (op : Int) 51 (by omega) kr (sd_run 7 (sdN 33 (op : Int) 52 (by omega) kr ?_)))))))
  refine sd_run 7 (sdN 35 (op : Int) 53 (by omega) kr (sd_run 7 (sdN 37 (op : Int) 64 (by omega) kr (sd_run 7 (sdN 39 (op : Int) 65 (by omega) kr (sd_run 7 (sdN 41 (op : Int) 66 (by omega) kr ?_)))))))
  refine sd_run 7 (sdN 43 (op : Int) 67 (by omega) kr (sd_run 7 (sdN 45 (op : Int) 68 (by omega) kr (sd_run 7 (sdN 47 (op : Int) 69 (by omega) kr (sd_run 30 ?_))))))
  refine sdY (.int .i64 0) hX [] [] True.intro ⟨(congrArg _ (size_gap (by omega)).symm), rfl⟩
 ·exact lit47 137 (.int .i64 1)
 ·exact lit47 31 (.int .i64 2)
 ·exact lit47 97 (.int .i64 5)
 ·exact lit47 158 (.int .i64 1)
 ·exact lit47 165 (.int .i64 1)
 ·exact lit47 172 (.int .i64 1)
 ·exact lit47 179 (.int .i64 1)
 ·exact lit47 186 (.int .i64 1)
 ·exact lit47 193 (.int .i64 1)
 ·exact lit47 287 (.int .i64 1)
 ·exact lit47 294 (.int .i64 1)
 ·exact lit47 301 (.int .i64 1)
 ·exact lit47 308 (.int .i64 1)
 ·exact lit47 315 (.int .i64 1)
 ·exact lit47 322 (.int .i64 1)
 ·exact lit47 329 (.int .i64 1)
 ·exact lit47 336 (.int .i64 1)
 ·exact lit47 343 (.int .i64 1)
 ·exact lit47 350 (.int .i64 1)
 ·exact lit47 38 (.int .i64 2)
 ·exact lit47 45 (.int .i64 2)
 ·exact lit47 52 (.int .i64 2)
 ·exact lit47 59 (.int .i64 2)
 ·exact lit47 66 (.int .i64 2)
 ·exact lit47 73 (.int .i64 2)
 ·exact lit47 80 (.int .i64 2)
 ·exact lit47 249 (.int .i64 1)
 ·exact lit47 256 (.int .i64 1)
 ·exact lit47 357 (.int .i64 1)
 ·exact lit47 364 (.int .i64 1)
 ·exact lit47 371 (.int .i64 1)
 ·exact lit47 378 (.int .i64 1)
 ·exact lit47 385 (.int .i64 1)
 ·exact lit47 392 (.int .i64 1)
 ·exact lit47 399 (.int .i64 1)
 ·exact lit47 406 (.int .i64 1)
 ·exact lit47 87 (.int .i64 2)
 ·exact lit47 90 (.int .i64 2)
 ·exact lit47 427 (.int .i64 1)
 ·exact lit47 434 (.int .i64 1)
def sp47 : List Value → Option Value
 | [.int .i64 op] => some (.int .i64 (sizeZ op))
 | _ => none
noncomputable def T8 : Tab := { T7 with orc := addOrc T7.orc 47 sp47 }
theorem ok_T8 [Bs] : ProgOk Tryd.prog T8 := ok_T7.know 47 sp47 fun args v h => by
 unfold sp47 at h
 split at h
 ·rename_i op; cases h; exact ⟨rfl, rfl, SCall.data (size_s op) rfl rfl⟩
 ·cases h
instance : OrcDat T8 := orcDat_add inferInstance 47 sp47 fun l v h => by
 unfold sp47 at h
 split at h
 ·cases h; exact ⟨rfl, rfl⟩
 ·cases h
noncomputable def f44b : Code := Tryd.f44.body.getD .skip
theorem f44_body : Tryd.f44.body = some f44b := by kernel_rfl
theorem f44_fn : T8.fn 44 = some Tryd.f44 := by kernel_rfl
theorem rightI_s (op n : Int)  : SCall Tryd.prog T8 44 #[.agg #[.int .i64 op, .int .u32 n]] (hq []) fun v h => v = .bool (rightI op n) ∧ h = hq [] := by
 refine scall_sd 18 _ 0 kr f44_fn f44_body rfl rfl rfl fun X hX => ?_
 refine sd_run 11 (sd_ask 5 (.int .i64 (sizeZ op)) 47 #[.int .i64 op] kr kr kr rfl (sd_run 9 ?_))
 rcases Bool.eq_false_or_eq_true (((sizeZ op) : Int) == 0) with hc1 | hc1
 ·skip
  refine sd_see 6 (.bool true) (see_bool kr hc1) (sd_run 9 ?_)
  simp only [bd] at hc1
  refine sdY (.bool false) hX [] [] True.intro ⟨(by congr 1; unfold rightI; simp [*]; try (rw [Bool.eq_iff_iff]; simp)), rfl⟩
 ·skip
  refine sd_see 6 (.bool false) (see_bool kr hc1) (sd_run 7 ?_)
  rcases Bool.eq_false_or_eq_true (((sizeZ op) : Int) == 1) with hc2 | hc2
  ·skip
   refine sd_see 8 (.bool true) (see_bool kr hc2) (sd_run 12 ?_)
   simp only [bd] at hc1 hc2
   refine sdY (.bool ((n : Int) == 0)) hX [] [] True.intro ⟨(by congr 1; unfold rightI; simp [*]; try (rw [Bool.eq_iff_iff]; simp)), rfl⟩
  ·skip
   refine sd_see 8 (.bool false) (see_bool kr hc2) (sd_run 7 ?_)
   rcases Bool.eq_false_or_eq_true (((sizeZ op) : Int) == 2) with hc3 | hc3
   ·skip
    refine sd_see 13 (.bool true) (see_bool kr hc3) (sd_run 12 ?_)
    simp only [bd] at hc1 hc2 hc3
    refine sdY (.bool (decide ((n : Int) ≤ 255))) hX [] [] True.intro ⟨(by congr 1; unfold rightI; simp [*]; try (rw [Bool.eq_iff_iff]; simp)), rfl⟩
   ·skip
    refine sd_see 13 (.bool false) (see_bool kr hc3) (sd_run 10 ?_)
    simp only [bd] at hc1 hc2 hc3
    refine sdY (.bool true) hX [] [] True.intro ⟨(by congr 1; unfold rightI; simp [*]; try (rw [Bool.eq_iff_iff]; simp)), rfl⟩
def sp44 : List Value → Option Value
 | [.agg ⟨[.int .i64 op, .int .u32 n]⟩] => some (.bool (rightI op n))
 | _ => none
noncomputable def T9 : Tab := { T8 with orc := addOrc T8.orc 44 sp44 }
theorem ok_T9 [Bs] : ProgOk Tryd.prog T9 := ok_T8.know 44 sp44 fun args v h => by
 unfold sp44 at h
 split at h
 ·rename_i op n; cases h; exact ⟨rfl, rfl, SCall.data (rightI_s op n) rfl rfl⟩
 ·cases h
instance : OrcDat T9 := orcDat_add inferInstance 44 sp44 fun l v h => by
 unfold sp44 at h
 split at h
 ·cases h; exact ⟨rfl, rfl⟩
 ·cases h
noncomputable def f45b : Code := Tryd.f45.body.getD .skip
theorem f45_body : Tryd.f45.body = some f45b := by kernel_rfl
theorem f45_fn : T9.fn 45 = some Tryd.f45 := by kernel_rfl
theorem plainB_s (op : Int)  : SCall Tryd.prog T9 45 #[.int .i64 op] (hq []) fun v h => v = .bool (plainB op) ∧ h = hq [] := by
 refine scall_sd 26 _ 0 kr f45_fn f45_body rfl rfl rfl fun X hX => ?_
 refine sd_run 13 ?_
 rcases Bool.eq_false_or_eq_true (decide ((op : Int) ≥ 0)) with hc1 | hc1
 ·skip
  refine sd_see 6 (.bool true) (see_bool kr hc1) (sd_run 6 ?_)
  rcases Bool.eq_false_or_eq_true (decide ((op : Int) ≤ 8)) with hc2 | hc2
  ·skip
   refine sd_see 3 (.bool true) (see_bool kr hc2) (sd_run 12 ?_)
   simp only [bd] at hc1 hc2
   refine sdY (.bool true) hX [] [] True.intro ⟨(by congr 1; unfold plainB; rw [Bool.eq_iff_iff]; simp; omega), rfl⟩
  ·skip
   refine sd_see 3 (.bool false) (see_bool kr hc2) (sd_run 5 ?_)
   rcases Bool.eq_false_or_eq_true (decide ((op : Int) ≥ 32)) with hc3 | hc3
   ·skip
    refine sd_see 12 (.bool true) (see_bool kr hc3) (sd_run 6 ?_)
    rcases Bool.eq_false_or_eq_true (decide ((op : Int) ≤ 40)) with hc4 | hc4
    ·skip
     refine sd_see 3 (.bool true) (see_bool kr hc4) (sd_run 9 ?_)
     simp only [bd] at hc1 hc2 hc3 hc4
     refine sdY (.bool true) hX [] [] True.intro ⟨(by congr 1; unfold plainB; rw [Bool.eq_iff_iff]; simp; omega), rfl⟩
    ·skip
     refine sd_see 3 (.bool false) (see_bool kr hc4) (sd_run 9 ?_)
     rcases Bool.eq_false_or_eq_true (decide ((op : Int) ≥ 16)) with hc5 | hc5
     ·skip
      refine sd_see 18 (.bool true) (see_bool kr hc5) (sd_run 4 ?_)
      rcases Bool.eq_false_or_eq_true (decide ((op : Int) ≤ 25)) with hc6 | hc6
      ·skip
       refine sd_see 22 (.bool true) (see_bool kr hc6) (sd_run 7 ?_)
       rcases Bool.eq_false_or_eq_true ((op : Int) != 24) with hc7 | hc7
       ·skip
        refine sd_see 2 (.bool true) (see_bool kr hc7) ?_
        simp only [bd] at hc1 hc2 hc3 hc4 hc5 hc6 hc7
        refine sdY (.bool true) hX [] [] True.intro ⟨(by congr 1; unfold plainB; rw [Bool.eq_iff_iff]; simp; omega), rfl⟩
       ·skip
        refine sd_see 2 (.bool false) (see_bool kr hc7) ?_
        simp only [bd] at hc1 hc2 hc3 hc4 hc5 hc6 hc7
        refine sdY (.bool false) hX [] [] True.intro ⟨(by congr 1; unfold plainB; rw [Bool.eq_iff_iff]; simp; omega), rfl⟩
      ·skip
       refine sd_see 22 (.bool false) (see_bool kr hc6) (sd_run 7 ?_)
       simp only [bd] at hc1 hc2 hc3 hc4 hc5 hc6
       refine sdY (.bool false) hX [] [] True.intro ⟨(by congr 1; unfold plainB; rw [Bool.eq_iff_iff]; simp; omega), rfl⟩
     ·skip
      refine sd_see 18 (.bool false) (see_bool kr hc5) (sd_run 11 ?_)
      simp only [bd] at hc1 hc2 hc3 hc4 hc5
      refine sdY (.bool false) hX [] [] True.intro ⟨(by congr 1; unfold plainB; rw [Bool.eq_iff_iff]; simp; omega), rfl⟩
   ·skip
    refine sd_see 12 (.bool false) (see_bool kr hc3) (sd_run 15 ?_)
    rcases Bool.eq_false_or_eq_true (decide ((op : Int) ≥ 16)) with hc8 | hc8
    ·skip
     refine sd_see 18 (.bool true) (see_bool kr hc8) (sd_run 4 ?_)
     rcases Bool.eq_false_or_eq_true (decide ((op : Int) ≤ 25)) with hc9 | hc9
     ·skip
      refine sd_see 22 (.bool true) (see_bool kr hc9) (sd_run 7 ?_)
      rcases Bool.eq_false_or_eq_true ((op : Int) != 24) with hc10 | hc10
      ·skip
       refine sd_see 2 (.bool true) (see_bool kr hc10) ?_
       simp only [bd] at hc1 hc2 hc3 hc8 hc9 hc10
       refine sdY (.bool true) hX [] [] True.intro ⟨(by congr 1; unfold plainB; rw [Bool.eq_iff_iff]; simp; omega), rfl⟩
      ·skip
       refine sd_see 2 (.bool false) (see_bool kr hc10) ?_
       simp only [bd] at hc1 hc2 hc3 hc8 hc9 hc10
       refine sdY (.bool false) hX [] [] True.intro ⟨(by congr 1; unfold plainB; rw [Bool.eq_iff_iff]; simp; omega), rfl⟩
     ·skip
      refine sd_see 22 (.bool false) (see_bool kr hc9) (sd_run 7 ?_)
      simp only [bd] at hc1 hc2 hc3 hc8 hc9
      refine sdY (.bool false) hX [] [] True.intro ⟨(by congr 1; unfold plainB; rw [Bool.eq_iff_iff]; simp; omega), rfl⟩
    ·skip
     refine sd_see 18 (.bool false) (see_bool kr hc8) (sd_run 11 ?_)
     simp only [bd] at hc1 hc2 hc3 hc8
     refine sdY (.bool false) hX [] [] True.intro ⟨(by congr 1; unfold plainB; rw [Bool.eq_iff_iff]; simp; omega), rfl⟩
 ·skip
  refine sd_see 6 (.bool false) (see_bool kr hc1) (sd_run 11 ?_)
  rcases Bool.eq_false_or_eq_true (decide ((op : Int) ≥ 32)) with hc11 | hc11
  ·skip
   refine sd_see 12 (.bool true) (see_bool kr hc11) (sd_run 6 ?_)
   rcases Bool.eq_false_or_eq_true (decide ((op : Int) ≤ 40)) with hc12 | hc12
   ·skip
    refine sd_see 3 (.bool true) (see_bool kr hc12) (sd_run 9 ?_)
    simp only [bd] at hc1 hc11 hc12
    refine sdY (.bool true) hX [] [] True.intro ⟨(by congr 1; unfold plainB; rw [Bool.eq_iff_iff]; simp; omega), rfl⟩
   ·skip
    refine sd_see 3 (.bool false) (see_bool kr hc12) (sd_run 9 ?_)
    rcases Bool.eq_false_or_eq_true (decide ((op : Int) ≥ 16)) with hc13 | hc13
    ·skip
     refine sd_see 18 (.bool true) (see_bool kr hc13) (sd_run 4 ?_)
     rcases Bool.eq_false_or_eq_true (decide ((op : Int) ≤ 25)) with hc14 | hc14
     ·skip
      refine sd_see 22 (.bool true) (see_bool kr hc14) (sd_run 7 ?_)
      rcases Bool.eq_false_or_eq_true ((op : Int) != 24) with hc15 | hc15
      ·skip
       refine sd_see 2 (.bool true) (see_bool kr hc15) ?_
       simp only [bd] at hc1 hc11 hc12 hc13 hc14 hc15
       refine sdY (.bool true) hX [] [] True.intro ⟨(by congr 1; unfold plainB; rw [Bool.eq_iff_iff]; simp; omega), rfl⟩
      ·skip
       refine sd_see 2 (.bool false) (see_bool kr hc15) ?_
       simp only [bd] at hc1 hc11 hc12 hc13 hc14 hc15
       refine sdY (.bool false) hX [] [] True.intro ⟨(by congr 1; unfold plainB; rw [Bool.eq_iff_iff]; simp; omega), rfl⟩
     ·skip
      refine sd_see 22 (.bool false) (see_bool kr hc14) (sd_run 7 ?_)
      simp only [bd] at hc1 hc11 hc12 hc13 hc14
      refine sdY (.bool false) hX [] [] True.intro ⟨(by congr 1; unfold plainB; rw [Bool.eq_iff_iff]; simp; omega), rfl⟩
    ·skip
     refine sd_see 18 (.bool false) (see_bool kr hc13) (sd_run 11 ?_)
     simp only [bd] at hc1 hc11 hc12 hc13
     refine sdY (.bool false) hX [] [] True.intro ⟨(by congr 1; unfold plainB; rw [Bool.eq_iff_iff]; simp; omega), rfl⟩
  ·skip
   refine sd_see 12 (.bool false) (see_bool kr hc11) (sd_run 15 ?_)
   rcases Bool.eq_false_or_eq_true (decide ((op : Int) ≥ 16)) with hc16 | hc16
   ·skip
    refine sd_see 18 (.bool true) (see_bool kr hc16) (sd_run 4 ?_)
    rcases Bool.eq_false_or_eq_true (decide ((op : Int) ≤ 25)) with hc17 | hc17
    ·skip
     refine sd_see 22 (.bool true) (see_bool kr hc17) (sd_run 7 ?_)
     rcases Bool.eq_false_or_eq_true ((op : Int) != 24) with hc18 | hc18
     ·skip
      refine sd_see 2 (.bool true) (see_bool kr hc18) ?_
      simp only [bd] at hc1 hc11 hc16 hc17 hc18
      refine sdY (.bool true) hX [] [] True.intro ⟨(by congr 1; unfold plainB; rw [Bool.eq_iff_iff]; simp; omega), rfl⟩
     ·skip
      refine sd_see 2 (.bool false) (see_bool kr hc18) ?_
      simp only [bd] at hc1 hc11 hc16 hc17 hc18
      refine sdY (.bool false) hX [] [] True.intro ⟨(by congr 1; unfold plainB; rw [Bool.eq_iff_iff]; simp; omega), rfl⟩
    ·skip
     refine sd_see 22 (.bool false) (see_bool kr hc17) (sd_run 7 ?_)
     simp only [bd] at hc1 hc11 hc16 hc17
     refine sdY (.bool false) hX [] [] True.intro ⟨(by congr 1; unfold plainB; rw [Bool.eq_iff_iff]; simp; omega), rfl⟩
   ·skip
    refine sd_see 18 (.bool false) (see_bool kr hc16) (sd_run 11 ?_)
    simp only [bd] at hc1 hc11 hc16
    refine sdY (.bool false) hX [] [] True.intro ⟨(by congr 1; unfold plainB; rw [Bool.eq_iff_iff]; simp; omega), rfl⟩
def sp45 : List Value → Option Value
 | [.int .i64 op] => some (.bool (plainB op))
 | _ => none
noncomputable def T10 : Tab := { T9 with orc := addOrc T9.orc 45 sp45 }
theorem ok_T10 [Bs] : ProgOk Tryd.prog T10 := ok_T9.know 45 sp45 fun args v h => by
 unfold sp45 at h
 split at h
 ·rename_i op; cases h; exact ⟨rfl, rfl, SCall.data (plainB_s op) rfl rfl⟩
 ·cases h
instance : OrcDat T10 := orcDat_add inferInstance 45 sp45 fun l v h => by
 unfold sp45 at h
 split at h
 ·cases h; exact ⟨rfl, rfl⟩
 ·cases h
noncomputable def f46b : Code := Tryd.f46.body.getD .skip
theorem f46_body : Tryd.f46.body = some f46b := by kernel_rfl
theorem f46_fn : T10.fn 46 = some Tryd.f46 := by kernel_rfl
theorem endsB_s (op : Int)  : SCall Tryd.prog T10 46 #[.int .i64 op] (hq []) fun v h => v = .bool (endsB op) ∧ h = hq [] := by
 refine scall_sd 17 _ 0 kr f46_fn f46_body rfl rfl rfl fun X hX => ?_
 refine sd_run 10 ?_
 rcases Bool.eq_false_or_eq_true (decide ((op : Int) ≥ 32)) with hc1 | hc1
 ·skip
  refine sd_see 5 (.bool true) (see_bool kr hc1) (sd_run 4 ?_)
  rcases Bool.eq_false_or_eq_true (decide ((op : Int) ≤ 40)) with hc2 | hc2
  ·skip
   refine sd_see 9 (.bool true) (see_bool kr hc2) (sd_run 11 ?_)
   simp only [bd] at hc1 hc2
   refine sdY (.bool true) hX [] [] True.intro ⟨(by congr 1; unfold endsB; rw [Bool.eq_iff_iff]; simp; omega), rfl⟩
  ·skip
   refine sd_see 9 (.bool false) (see_bool kr hc2) (sd_run 3 ?_)
   rcases Bool.eq_false_or_eq_true (decide ((op : Int) ≥ 64)) with hc3 | hc3
   ·skip
    refine sd_see 12 (.bool true) (see_bool kr hc3) (sd_run 8 ?_)
    rcases Bool.eq_false_or_eq_true (decide ((op : Int) ≤ 69)) with hc4 | hc4
    ·skip
     refine sd_see 2 (.bool true) (see_bool kr hc4) ?_
     simp only [bd] at hc1 hc2 hc3 hc4
     refine sdY (.bool true) hX [] [] True.intro ⟨(by congr 1; unfold endsB; rw [Bool.eq_iff_iff]; simp; omega), rfl⟩
    ·skip
     refine sd_see 2 (.bool false) (see_bool kr hc4) ?_
     simp only [bd] at hc1 hc2 hc3 hc4
     refine sdY (.bool false) hX [] [] True.intro ⟨(by congr 1; unfold endsB; rw [Bool.eq_iff_iff]; simp; omega), rfl⟩
   ·skip
    refine sd_see 12 (.bool false) (see_bool kr hc3) (sd_run 8 ?_)
    simp only [bd] at hc1 hc2 hc3
    refine sdY (.bool false) hX [] [] True.intro ⟨(by congr 1; unfold endsB; rw [Bool.eq_iff_iff]; simp; omega), rfl⟩
 ·skip
  refine sd_see 5 (.bool false) (see_bool kr hc1) (sd_run 7 ?_)
  rcases Bool.eq_false_or_eq_true (decide ((op : Int) ≥ 64)) with hc5 | hc5
  ·skip
   refine sd_see 12 (.bool true) (see_bool kr hc5) (sd_run 8 ?_)
   rcases Bool.eq_false_or_eq_true (decide ((op : Int) ≤ 69)) with hc6 | hc6
   ·skip
    refine sd_see 2 (.bool true) (see_bool kr hc6) ?_
    simp only [bd] at hc1 hc5 hc6
    refine sdY (.bool true) hX [] [] True.intro ⟨(by congr 1; unfold endsB; rw [Bool.eq_iff_iff]; simp; omega), rfl⟩
   ·skip
    refine sd_see 2 (.bool false) (see_bool kr hc6) ?_
    simp only [bd] at hc1 hc5 hc6
    refine sdY (.bool false) hX [] [] True.intro ⟨(by congr 1; unfold endsB; rw [Bool.eq_iff_iff]; simp; omega), rfl⟩
  ·skip
   refine sd_see 12 (.bool false) (see_bool kr hc5) (sd_run 8 ?_)
   simp only [bd] at hc1 hc5
   refine sdY (.bool false) hX [] [] True.intro ⟨(by congr 1; unfold endsB; rw [Bool.eq_iff_iff]; simp; omega), rfl⟩
def sp46 : List Value → Option Value
 | [.int .i64 op] => some (.bool (endsB op))
 | _ => none
noncomputable def T11 : Tab := { T10 with orc := addOrc T10.orc 46 sp46 }
theorem ok_T11 [Bs] : ProgOk Tryd.prog T11 := ok_T10.know 46 sp46 fun args v h => by
 unfold sp46 at h
 split at h
 ·rename_i op; cases h; exact ⟨rfl, rfl, SCall.data (endsB_s op) rfl rfl⟩
 ·cases h
instance : OrcDat T11 := orcDat_add inferInstance 46 sp46 fun l v h => by
 unfold sp46 at h
 split at h
 ·cases h; exact ⟨rfl, rfl⟩
 ·cases h
noncomputable def f49b : Code := Tryd.f49.body.getD .skip
theorem f49_body : Tryd.f49.body = some f49b := by kernel_rfl
theorem f49_fn : T11.fn 49 = some Tryd.f49 := by kernel_rfl
theorem sign_s (n : Int)  : SCall Tryd.prog T11 49 #[.int .u32 n] (hq []) fun v h => v = .int .u32 (signZ n) ∧ h = hq [] := by
 refine scall_sd 7 _ 0 kr f49_fn f49_body rfl rfl rfl fun X hX => ?_
 refine sd_run 15 ?_
 refine sdY (.int .u32 (IntKind.u32.wrap (IntKind.i32.wrap (IntKind.i8.wrap n)))) hX [] [] True.intro ⟨rfl, rfl⟩
def sp49 : List Value → Option Value
 | [.int .u32 n] => some (.int .u32 (signZ n))
 | _ => none
noncomputable def T12 : Tab := { T11 with orc := addOrc T11.orc 49 sp49 }
theorem ok_T12 [Bs] : ProgOk Tryd.prog T12 := ok_T11.know 49 sp49 fun args v h => by
 unfold sp49 at h
 split at h
 ·rename_i n; cases h; exact ⟨rfl, rfl, SCall.data (sign_s n) rfl rfl⟩
 ·cases h
instance : OrcDat T12 := orcDat_add inferInstance 49 sp49 fun l v h => by
 unfold sp49 at h
 split at h
 ·cases h; exact ⟨rfl, rfl⟩
 ·cases h
theorem known_run : answers (.bool true) (evCall Tryd.prog T12 2000 9 #[] ⟨.lf, 0⟩) = true := by kernel_rfl
def sp9 : List Value → Option Value
 | [] => some (.bool true)
 | _ => none
noncomputable def T13 : Tab := { T12 with orc := addOrc T12.orc 9 sp9 }
theorem ok_T13 [Bs] : ProgOk Tryd.prog T13 := ok_T12.know 9 sp9 fun args v h => by
 unfold sp9 at h
 split at h
 ·cases h; exact ⟨rfl, rfl, acall_answers known_run⟩
 ·cases h
instance : OrcDat T13 := orcDat_add inferInstance 9 sp9 fun l v h => by
 unfold sp9 at h
 split at h
 ·cases h; exact ⟨rfl, rfl⟩
 ·cases h
end Ls
end Go.Proofs.YtgpphhdndmdlgaaDoor
