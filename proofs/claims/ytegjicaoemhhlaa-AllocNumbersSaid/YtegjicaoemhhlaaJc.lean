/- Chapter 21: values; what gcode tells of a number. -/
import Derived.Test.YtegjicaoemhhlaaJb
namespace Go.Proofs.Ytegjicaoemhhlaa
open Go Go.Ev Go.RowKit
set_option linter.unusedVariables false
set_option linter.unusedSimpArgs false
set_option maxRecDepth 100000
namespace Ls
def iiC (x : Int × Int × Int × Int × Int) : List Value := [.int .i64 x.1, .int .i64 x.2.1, .int .i64 x.2.2.1, .int .i64 x.2.2.2.1, .int .u32 x.2.2.2.2]
theorem iiC_len : ∀ x, (iiC x).length = 5 := fun _ => rfl
theorem iiC_pl : ∀ x, (iiC x).all plain = true := fun _ => rfl
def inC (x : Int) : List Value := [.int .i64 x]
theorem inC_len : ∀ x, (inC x).length = 1 := fun _ => rfl
theorem inC_pl : ∀ x, (inC x).all plain = true := fun _ => rfl
def uC (x : Int) : List Value := [.int .u32 x]
theorem uC_len : ∀ x, (uC x).length = 1 := fun _ => rfl
theorem uC_pl : ∀ x, (uC x).all plain = true := fun _ => rfl
def ivC (x : Int × Int × Int) : List Value := [.int .i64 x.1, .int .i64 x.2.1, .int .i64 x.2.2]
theorem ivC_len : ∀ x, (ivC x).length = 3 := fun _ => rfl
theorem ivC_pl : ∀ x, (ivC x).all plain = true := fun _ => rfl
def mmC (x : Int × Int) : List Value := [.int .i64 x.1, .int .u32 x.2]
theorem mmC_pl : ∀ x, (mmC x).all plain = true := fun _ => rfl
structure Sx where
 pc : Int
 fl : Int
 root : Int
 vec : Int
 epc : Int
 cause : Int
 addr : Int
 cnt : Int
 su : Bool
 pg : Bool
 ie : Bool
 es : Bool
 ei : Bool
 ha : Bool
abbrev s1 (b n : Nat) : Value := .slice (some ⟨b, 0, none⟩) n (unk + 1)
abbrev s2 (b n : Nat) : Value := .slice (some ⟨b, 0, none⟩) n (unk + 2)
abbrev s5 (b n : Nat) : Value := .slice (some ⟨b, 0, none⟩) n (unk + 5)
abbrev stw (pc : Int) (d r : Value) (fl : Int) (su pg ie : Bool) (root vec epc cause addr : Int) (es ei : Bool) (cnt : Int) (ha : Bool) : Value := .agg #[.int .u32 pc, d, r, .int .u32 fl, .bool su, .bool pg, .bool ie, .int .u32 root, .int .u32 vec, .int .u32 epc, .int .u32 cause, .int .u32 addr, .bool es, .bool ei, .int .u64 cnt, .bool ha]
abbrev slw (pc : Int) (d r : Value) (fl : Int) (su pg ie : Bool) (root vec epc cause addr : Int) (es ei : Bool) (cnt : Int) (ha : Bool) : List Value := [.int .u32 pc, d, r, .int .u32 fl, .bool su, .bool pg, .bool ie, .int .u32 root, .int .u32 vec, .int .u32 epc, .int .u32 cause, .int .u32 addr, .bool es, .bool ei, .int .u64 cnt, .bool ha]
abbrev stq (q : Sx) (pc : Int) (d r : Value) (fl cnt : Int) : Value := .agg #[.int .u32 pc, d, r, .int .u32 fl, .bool q.su, .bool q.pg, .bool q.ie, .int .u32 q.root, .int .u32 q.vec, .int .u32 q.epc, .int .u32 q.cause, .int .u32 q.addr, .bool q.es, .bool q.ei, .int .u64 cnt, .bool q.ha]
abbrev slq (q : Sx) (pc : Int) (d r : Value) (fl cnt : Int) : List Value := [.int .u32 pc, d, r, .int .u32 fl, .bool q.su, .bool q.pg, .bool q.ie, .int .u32 q.root, .int .u32 q.vec, .int .u32 q.epc, .int .u32 q.cause, .int .u32 q.addr, .bool q.es, .bool q.ei, .int .u64 cnt, .bool q.ha]
abbrev pgV (c : Value) (nd nr hd hr : Int) (od rd : Value) (fl nx tg br tk ct vs : Int) : Value := .agg #[c, .int .i64 nd, .int .i64 nr, .int .i64 hd, .int .i64 hr, od, rd, .int .i64 fl, .int .u32 nx, .int .i64 tg, .int .i64 br, .int .u32 tk, .int .i64 ct, .int .i64 vs]
theorem brn {f : Em} {h : Heap} {c : Nat} {o : Ob} (h1 : h.get c = obRn f o := by kernel_rfl) (h2 : (obRn f o).isSome = true := by kernel_rfl) : Bk f h c o := bk_ren h1 h2
theorem cvo {l : List (Option Nat)} {k k1 h : Heap} {c : Nat} {o : Ob} (h1 : (c.blt h.n && l.all (fun x => match x with | some d => !d.beq c | none => true)) = true := by kernel_rfl) (h2 : h.get c = some o := by kernel_rfl) : CovAt (emOf l) k k1 h c o := cov_old h1 h2
theorem cvr {f : Em} {k k1 h : Heap} {c : Nat} {o : Ob} (b : Nat) (h0 : (b.blt k1.n && isNm (f.ext k.n h.n) b c) = true := by kernel_rfl) (h1 : (match k1.get b with | some o1 => obRn (f.ext k.n h.n) o1 | none => none) = some o := by kernel_rfl) : CovAt f k k1 h c o := cov_ren b h0 h1
theorem bd : (∀ (p : Prop) [Decidable p], (decide p = true) = p) ∧ (∀ (p : Prop) [Decidable p], (decide p = false) = ¬ p) ∧ (∀ a b : Int, ((a == b) = true) = (a = b)) ∧ (∀ a b : Int, ((a == b) = false) = ¬ a = b) ∧ (∀ a b : Int, ((a != b) = true) = ¬ a = b) ∧ (∀ a b : Int, ((a != b) = false) = (a = b)) ∧ (∀ a b : Int, (a > b) = (b < a)) ∧ (∀ a b : Int, (a ≥ b) = (b ≤ a)) ∧ (∀ a b : Int, (¬ a ≤ b) = (b < a)) ∧ (∀ a b : Int, (¬ a < b) = (b ≤ a)) ∧ (∀ b : Bool, (¬ b = true) = (b = false)) ∧ (∀ b : Bool, (¬ b = false) = (b = true)) ∧ (∀ b : Bool, ((!b) = true) = (b = false)) ∧ (∀ b : Bool, ((!b) = false) = (b = true)) := by
 refine ⟨fun p _ => by simp, fun p _ => by simp, fun a b => by simp, fun a b => by simp, fun a b => by simp, fun a b => by simp, fun a b => rfl, fun a b => rfl, fun a b => by simp, fun a b => by simp, fun b => by simp, fun b => by simp, fun b => by simp, fun b => by simp⟩
section
variable {P : Program} {T : Tab} {X : Cx} {Q : Xt → St → Prop} {c : Cf}
theorem sdT (t : Nat) (p : Prop) [Decidable p] (h : p) (hr : c.s.tm.get t = some (.bool (decide p))) (hk : SD P T X Q (c.see t (.bool true))) : SD P T X Q c := sd_see t _ (see_bool hr (decide_eq_true h)) hk
theorem sdF (t : Nat) (p : Prop) [Decidable p] (h : ¬ p) (hr : c.s.tm.get t = some (.bool (decide p))) (hk : SD P T X Q (c.see t (.bool false))) : SD P T X Q c := sd_see t _ (see_bool hr (decide_eq_false h)) hk
theorem sdE (t : Nat) (x y : Int) (h : x = y) (hr : c.s.tm.get t = some (.bool (x == y))) (hk : SD P T X Q (c.see t (.bool true))) : SD P T X Q c := sd_see t _ (see_bool hr (beq_iff_eq.2 h)) hk
theorem sdN (t : Nat) (x y : Int) (h : x ≠ y) (hr : c.s.tm.get t = some (.bool (x == y))) (hk : SD P T X Q (c.see t (.bool false))) : SD P T X Q c := sd_see t _ (see_bool hr (beq_eq_false_iff_ne.2 h)) hk
theorem sdP (t : Nat) (x y : Int) (h : x ≠ y) (hr : c.s.tm.get t = some (.bool (x != y))) (hk : SD P T X Q (c.see t (.bool true))) : SD P T X Q c := sd_see t _ (see_bool hr (bne_iff_ne.2 h)) hk
theorem sdZ {rs : Array ResultVar} {R : Value → Heap → Prop} (v : Value) {n0 : Nat} (h0 : X.h0.n = n0) (w : Value) (obs : List (Option Ob)) (l : List (Option Nat)) (hb : Blks (emOf l) c.s.H obs l) (hr : R w (hq obs)) (he : atEnd c = true := by kernel_rfl) (hp : rs.toList.all (presR c.s.tm) = true := by kernel_rfl) (hv : aresults T c.s.tm c.s.H rs = some v := by kernel_rfl) (hl : subG n0 c.s.H obs 0 obs l [] = true := by kernel_rfl) (hle : n0.ble l.length = true := by kernel_rfl) (hw : rn2 (emOf l) w = some v := by kernel_rfl) : SD P T X (QF T X rs R) c := sd_end v h0 he hp hv w (hq obs) (emOf l) (sub_of hl hle hb) (rn2_sound _ _ hw) hr
theorem sdY {rs : Array ResultVar} {R : Value → Heap → Prop} (v : Value) {n0 : Nat} (h0 : X.h0.n = n0) (obs : List (Option Ob)) (l : List (Option Nat)) (hb : Blks (emOf l) c.s.H obs l) (hr : R v (hq obs)) (he : atEnd c = true := by kernel_rfl) (hp : rs.toList.all (presR c.s.tm) = true := by kernel_rfl) (hv : aresults T c.s.tm c.s.H rs = some v := by kernel_rfl) (hl : subG n0 c.s.H obs 0 obs l [] = true := by kernel_rfl) (hle : n0.ble l.length = true := by kernel_rfl) (hw : rn2 (emOf l) v = some v := by kernel_rfl) : SD P T X (QF T X rs R) c := sdZ v h0 v obs l hb hr he hp hv hl hle hw
theorem sdC (t : Nat) (f : FuncId) (args : Array Value) {R : Value → Heap → Prop} {args0 : Array Value} {obs : List (Option Ob)} (hc : SCall P T f args0 (hq obs) R) (l : List (Option Nat)) (hb : Blks (emOf l) c.s.H obs l) (hk : HN (emOf l) (hq obs) c.s.H → ∀ v k1, R v k1 → ∃ w h1, Glue (emOf l) (hq obs) k1 c.s.H h1 ∧ RN ((emOf l).ext (hq obs).n c.s.H.n) v w ∧ SD P T X Q (c.put t w h1)) (ho : okOp c t = true := by kernel_rfl) (hs : strictC c = true := by kernel_rfl) (ha : aop P T c.s.tm (opC c) c.s.H = some (.enter f args, c.s.H) := by kernel_rfl) (hl : subGo 0 c.s.H.n 0 l [] = true := by kernel_rfl) (hr : rnG (rn2 (emOf l)) args0.toList = some args.toList := by kernel_rfl) : SD P T X Q c := sd_call t f args hc (emOf l) ho hs ha (hn_of 0 hl hb) (rnG_sound rn2_sound _ _ hr) (hk (hn_of 0 hl hb))
theorem mkG {g : Em} {k k1 : Heap} {t : Nat} {v : Value} (w : Value) (l : List (Option Ob)) (hc : Covs g k k1 c.s.H 0 l) (hs : SD P T X Q (c.put t w (hq l))) (hn : l.length.beq (c.s.H.n + (k1.n - k.n)) = true := by kernel_rfl) (hl : k.n.ble k1.n = true := by kernel_rfl) (hr : rn2 (g.ext k.n c.s.H.n) v = some w := by kernel_rfl) : ∃ w h1, Glue g k k1 c.s.H h1 ∧ RN (g.ext k.n c.s.H.n) v w ∧ SD P T X Q (c.put t w h1) := ⟨w, hq l, glue_of hn hl hc, rn2_sound _ _ hr, hs⟩
theorem sdCp (t : Nat) (f : FuncId) (args : Array Value) {R : Value → Heap → Prop} {args0 : Array Value} {obs : List (Option Ob)} (hc : SCall P T f args0 (hq obs) R) (l : List (Option Nat)) (hb : Blks (emOf l) c.s.H obs l) (hk : ∀ v k1, R v k1 → k1 = hq obs ∧ ∃ w, rn2 ((emOf l).ext obs.length c.s.H.n) v = some w ∧ SD P T X Q (c.put t w c.s.H)) (ho : okOp c t = true := by kernel_rfl) (hs : strictC c = true := by kernel_rfl) (ha : aop P T c.s.tm (opC c) c.s.H = some (.enter f args, c.s.H) := by kernel_rfl) (hl : subGo 0 c.s.H.n 0 l [] = true := by kernel_rfl) (hr : rnG (rn2 (emOf l)) args0.toList = some args.toList := by kernel_rfl) : SD P T X Q c := sd_callp t f args hc l ho hs ha (hn_of 0 hl hb) hr hk
theorem sdQ (t : Nat) (x y : Int) (h : x = y) (hr : c.s.tm.get t = some (.bool (x != y))) (hk : SD P T X Q (c.see t (.bool false))) : SD P T X Q c := sd_see t _ (see_bool hr (bne_eq_false_iff_eq.2 h)) hk
end
theorem cvs {f : Em} {k k1 h : Heap} {c : Nat} {o : Ob} (b : Nat) (hf : HN f k h) (hle : k.n.ble k1.n = true := by kernel_rfl) (h0 : isNm f b c = true := by kernel_rfl) (h1 : k1.get b = k.get b := by kernel_rfl) (hs : (k.get b).isSome = true := by kernel_rfl) (h2 : h.get c = some o := by kernel_rfl) : CovAt f k k1 h c o := cov_same b hf hle h0 h1 hs h2
abbrev i1_ : List (Option Nat) := [some 0]
abbrev e1_ : Em := emOf i1_
abbrev i2_ : List (Option Nat) := [some 0, some 1]
abbrev e2_ : Em := emOf i2_
abbrev i3_ : List (Option Nat) := [some 0, some 1, some 2]
abbrev e3_ : Em := emOf i3_
abbrev i4_ : List (Option Nat) := [some 0, some 1, some 2, some 3]
abbrev e4_ : Em := emOf i4_
abbrev i5_ : List (Option Nat) := [some 0, some 1, some 2, some 3, some 4]
abbrev e5_ : Em := emOf i5_
abbrev i6_ : List (Option Nat) := [some 0, some 1, some 2, some 3, some 4, some 5]
abbrev e6_ : Em := emOf i6_
abbrev i7_ : List (Option Nat) := [some 0, some 1, some 2, some 3, some 4, some 5, some 6]
abbrev e7_ : Em := emOf i7_
abbrev i8_ : List (Option Nat) := [some 0, some 1, some 2, some 3, some 4, some 5, some 6, some 7]
abbrev e8_ : Em := emOf i8_
abbrev i9_ : List (Option Nat) := [some 0, some 1, some 2, some 3, some 4, some 5, some 6, some 7, some 8]
abbrev e9_ : Em := emOf i9_
abbrev i10_ : List (Option Nat) := [some 0, some 1, some 2, some 3, some 4, some 5, some 6, some 7, some 8, some 9]
abbrev e10_ : Em := emOf i10_
abbrev i12_ : List (Option Nat) := [some 0, some 1, some 2, some 3, some 4, some 5, some 6, some 7, some 8, some 9, some 10, some 11]
abbrev e12_ : Em := emOf i12_
abbrev iiCo (l : List (Int × Int × Int × Int × Int)) (ro : Bool) : Option Ob := some ⟨tab iiC l, 61, ro⟩
theorem iiC_b {f : Em} {h : Heap} {c e : Nat} {l : List (Int × Int × Int × Int × Int)} {ro : Bool} (h1 : h.get c = some ⟨tab iiC l, e, ro⟩ := by kernel_rfl) : Bk f h c ⟨tab iiC l, e, ro⟩ := bk_flat _ h1 (tab_plain iiC_pl _) rfl
theorem iiC_c {f : Em} {k k1 h : Heap} {c e : Nat} {l : List (Int × Int × Int × Int × Int)} {ro : Bool} (b : Nat) (h0 : (b.blt k1.n && isNm (f.ext k.n h.n) b c) = true := by kernel_rfl) (h1 : k1.get b = some ⟨tab iiC l, e, ro⟩ := by kernel_rfl) : CovAt f k k1 h c ⟨tab iiC l, e, ro⟩ := cov_flat b h0 h1 (tab_plain iiC_pl _)
abbrev inCo (l : List (Int)) (ro : Bool) : Option Ob := some ⟨tab inC l, 3, ro⟩
theorem inC_b {f : Em} {h : Heap} {c e : Nat} {l : List (Int)} {ro : Bool} (h1 : h.get c = some ⟨tab inC l, e, ro⟩ := by kernel_rfl) : Bk f h c ⟨tab inC l, e, ro⟩ := bk_flat _ h1 (tab_plain inC_pl _) rfl
theorem inC_c {f : Em} {k k1 h : Heap} {c e : Nat} {l : List (Int)} {ro : Bool} (b : Nat) (h0 : (b.blt k1.n && isNm (f.ext k.n h.n) b c) = true := by kernel_rfl) (h1 : k1.get b = some ⟨tab inC l, e, ro⟩ := by kernel_rfl) : CovAt f k k1 h c ⟨tab inC l, e, ro⟩ := cov_flat b h0 h1 (tab_plain inC_pl _)
abbrev uCo (l : List (Int)) (ro : Bool) : Option Ob := some ⟨tab uC l, 27, ro⟩
theorem uC_b {f : Em} {h : Heap} {c e : Nat} {l : List (Int)} {ro : Bool} (h1 : h.get c = some ⟨tab uC l, e, ro⟩ := by kernel_rfl) : Bk f h c ⟨tab uC l, e, ro⟩ := bk_flat _ h1 (tab_plain uC_pl _) rfl
theorem uC_c {f : Em} {k k1 h : Heap} {c e : Nat} {l : List (Int)} {ro : Bool} (b : Nat) (h0 : (b.blt k1.n && isNm (f.ext k.n h.n) b c) = true := by kernel_rfl) (h1 : k1.get b = some ⟨tab uC l, e, ro⟩ := by kernel_rfl) : CovAt f k k1 h c ⟨tab uC l, e, ro⟩ := cov_flat b h0 h1 (tab_plain uC_pl _)
abbrev ivCo (l : List (Int × Int × Int)) (ro : Bool) : Option Ob := some ⟨tab ivC l, 69, ro⟩
theorem ivC_b {f : Em} {h : Heap} {c e : Nat} {l : List (Int × Int × Int)} {ro : Bool} (h1 : h.get c = some ⟨tab ivC l, e, ro⟩ := by kernel_rfl) : Bk f h c ⟨tab ivC l, e, ro⟩ := bk_flat _ h1 (tab_plain ivC_pl _) rfl
theorem ivC_c {f : Em} {k k1 h : Heap} {c e : Nat} {l : List (Int × Int × Int)} {ro : Bool} (b : Nat) (h0 : (b.blt k1.n && isNm (f.ext k.n h.n) b c) = true := by kernel_rfl) (h1 : k1.get b = some ⟨tab ivC l, e, ro⟩ := by kernel_rfl) : CovAt f k k1 h c ⟨tab ivC l, e, ro⟩ := cov_flat b h0 h1 (tab_plain ivC_pl _)
abbrev mmCo (l : List (Int × Int)) (ro : Bool) : Option Ob := some ⟨tab mmC l, 75, ro⟩
theorem mmC_b {f : Em} {h : Heap} {c e : Nat} {l : List (Int × Int)} {ro : Bool} (h1 : h.get c = some ⟨tab mmC l, e, ro⟩ := by kernel_rfl) : Bk f h c ⟨tab mmC l, e, ro⟩ := bk_flat _ h1 (tab_plain mmC_pl _) rfl
theorem inC_ones : ∀ x, (inC x).all Ev.one = true := fun _ => rfl
abbrev II := Int × Int × Int × Int × Int
def valB (n k : Int) : Bool := decide (0 ≤ n) && decide (n < k)
def madeB (nd nr : Int) (x : II) (k : Int) : Bool :=
 decide (x.2.1 = k) && (if x.1 = 0 then decide (x.2.2.1 = 0) && decide (x.2.2.2.1 = 0)
  else if x.1 = 1 then (decide (x.2.2.1 = 0) && decide (x.2.2.2.1 = 0)) && decide (x.2.2.2.2 < nd)
  else if x.1 = 2 then (decide (x.2.2.1 = 0) && decide (x.2.2.2.1 = 0)) && decide (x.2.2.2.2 < nr)
  else if x.1 = 3 then (valB x.2.2.1 k && valB x.2.2.2.1 k) && (decide (16 ≤ x.2.2.2.2) && decide (x.2.2.2.2 ≤ 23))
  else if x.1 = 4 then (valB x.2.2.1 k && valB x.2.2.2.1 k) && ((decide (16 ≤ x.2.2.2.2) && decide (x.2.2.2.2 ≤ 23)) || decide (x.2.2.2.2 = 25))
  else false)
structure RightP (c : List II) (od rd : List Int) (nd nr hd hr fl tg br ct vs : Int) : Prop where
 vs_ : vs = c.length
 len : c.length ≤ 64
 nd_ : 0 ≤ nd ∧ nd ≤ 16
 nr_ : 0 ≤ nr ∧ nr ≤ 16
 hd_ : 0 ≤ hd ∧ hd ≤ 16
 hr_ : 0 ≤ hr ∧ hr ≤ 16
 ct_ : 1 ≤ ct ∧ ct ≤ 8
 code : ∀ (k : Nat) (x : II), c[k]? = some x → madeB nd nr x k = true
 od_ : ∀ (k : Nat) (x : Int), od[k]? = some x → valB x vs = true
 rd_ : ∀ (k : Nat) (x : Int), rd[k]? = some x → valB x vs = true
 fl_ : fl = -1 ∨ valB fl vs = true
 tg_ : tg = -1 ∨ valB tg vs = true
 br_ : br = 0 ∨ (33 ≤ br ∧ br ≤ 37 ∧ tg = -1)
noncomputable instance (c : List II) (od rd : List Int) (nd nr hd hr fl tg br ct vs : Int) : Decidable (RightP c od rd nd nr hd hr fl tg br ct vs) := Classical.propDecidable _
noncomputable def rightB (c : List II) (od rd : List Int) (nd nr hd hr fl tg br ct vs : Int) : Bool := decide (RightP c od rd nd nr hd hr fl tg br ct vs)
theorem rightB_no {c : List II} {od rd : List Int} {nd nr hd hr fl tg br ct vs : Int} (h : RightP c od rd nd nr hd hr fl tg br ct vs → False) : rightB c od rd nd nr hd hr fl tg br ct vs = false := decide_eq_false h
theorem rightB_yes {c : List II} {od rd : List Int} {nd nr hd hr fl tg br ct vs : Int} (h : RightP c od rd nd nr hd hr fl tg br ct vs) : rightB c od rd nd nr hd hr fl tg br ct vs = true := decide_eq_true h
noncomputable def f46b : Code := Try.f46.body.getD .skip
theorem f46_body : Try.f46.body = some f46b := by kernel_rfl
theorem f46_fn : T6.fn 46 = some Try.f46 := by kernel_rfl
theorem value_s (a k : Int)  : SCall Try.prog T6 46 #[.int .i64 a, .int .i64 k] (hq []) fun v h => v = .bool (valB a k) ∧ h = hq [] := by
 refine scall_sd 12 _ 0 kr f46_fn f46_body rfl rfl rfl fun X hX => ?_
 refine sd_run 10 ?_
 rcases Bool.eq_false_or_eq_true (decide ((a : Int) ≥ 0)) with hc1 | hc1
 ·skip
  refine sd_see 7 (.bool true) (see_bool kr hc1) (sd_run 8 ?_)
  simp only [bd] at hc1
  refine sdY (.bool (decide ((a : Int) < k))) hX [] [] True.intro ⟨(by unfold valB; congr 1; simp [*]), rfl⟩
 ·skip
  refine sd_see 7 (.bool false) (see_bool kr hc1) (sd_run 8 ?_)
  simp only [bd] at hc1
  refine sdY (.bool false) hX [] [] True.intro ⟨(by unfold valB; congr 1; simp; omega), rfl⟩
def sp46 : List Value → Option Value
 | [.int .i64 a, .int .i64 k] => some (.bool (valB a k))
 | _ => none
noncomputable def T7 : Tab := { T6 with orc := addOrc T6.orc 46 sp46 }
theorem ok_T7 [Bs] : ProgOk Try.prog T7 := ok_T6.know 46 sp46 fun args v h => by
 unfold sp46 at h
 split at h
 ·rename_i a k; cases h; exact ⟨rfl, rfl, SCall.data (value_s a k) rfl rfl⟩
 ·cases h
instance : OrcDat T7 := orcDat_add inferInstance 46 sp46 fun l v h => by
 unfold sp46 at h
 split at h
 ·cases h; exact ⟨rfl, rfl⟩
 ·cases h
def namedB (op : Int) : Bool := (decide (0 ≤ op) && decide (op ≤ 8)) || (decide (16 ≤ op) && decide (op ≤ 25)) || (decide (32 ≤ op) && decide (op ≤ 40)) || (decide (48 ≤ op) && decide (op ≤ 53)) || (decide (64 ≤ op) && decide (op ≤ 69))
def sizeZ (op : Int) : Int := if op = 1 ∨ (32 ≤ op ∧ op ≤ 38) ∨ op = 66 ∨ op = 67 then 2 else if op = 2 then 5 else if namedB op = true then 1 else 0
def rightI (op n : Int) : Bool := decide (sizeZ op ≠ 0) && ((!decide (sizeZ op = 1) || decide (n = 0)) && (!decide (sizeZ op = 2) || decide (n ≤ 255)))
def endsB (op : Int) : Bool := (decide (32 ≤ op) && decide (op ≤ 40)) || (decide (64 ≤ op) && decide (op ≤ 69))
def plainB (op : Int) : Bool := (decide (0 ≤ op) && decide (op ≤ 8)) || (decide (32 ≤ op) && decide (op ≤ 40)) || (decide (16 ≤ op) && (decide (op ≤ 25) && decide (op ≠ 24)))
def signZ (n : Int) : Int := IntKind.u32.wrap (IntKind.i32.wrap (IntKind.i8.wrap n))
theorem named1 (op : Int) : (op < 0 ∨ (9 ≤ op ∧ op ≤ 15) ∨ (26 ≤ op ∧ op ≤ 31) ∨ (41 ≤ op ∧ op ≤ 47) ∨ (54 ≤ op ∧ op ≤ 63) ∨ 70 ≤ op) ∨ op = 0 ∨ op = 1 ∨ op = 2 ∨ op = 3 ∨ op = 4 ∨ op = 5 ∨ op = 6 ∨ op = 7 ∨ op = 8 ∨ op = 16 ∨ op = 17 ∨ op = 18 ∨ op = 19 ∨ op = 20 ∨ op = 21 ∨ op = 22 ∨ op = 23 ∨ op = 24 ∨ op = 25 ∨ op = 32 ∨ op = 33 ∨ op = 34 ∨ op = 35 ∨ op = 36 ∨ op = 37 ∨ op = 38 ∨ op = 39 ∨ op = 40 ∨ op = 48 ∨ op = 49 ∨ op = 50 ∨ op = 51 ∨ op = 52 ∨ op = 53 ∨ op = 64 ∨ op = 65 ∨ op = 66 ∨ op = 67 ∨ op = 68 ∨ op = 69 := by omega
theorem named_cases (op : Int) : op < 0 ∨ (9 ≤ op ∧ op ≤ 15) ∨ (26 ≤ op ∧ op ≤ 31) ∨ (41 ≤ op ∧ op ≤ 47) ∨ (54 ≤ op ∧ op ≤ 63) ∨ 70 ≤ op ∨ op = 0 ∨ op = 1 ∨ op = 2 ∨ op = 3 ∨ op = 4 ∨ op = 5 ∨ op = 6 ∨ op = 7 ∨ op = 8 ∨ op = 16 ∨ op = 17 ∨ op = 18 ∨ op = 19 ∨ op = 20 ∨ op = 21 ∨ op = 22 ∨ op = 23 ∨ op = 24 ∨ op = 25 ∨ op = 32 ∨ op = 33 ∨ op = 34 ∨ op = 35 ∨ op = 36 ∨ op = 37 ∨ op = 38 ∨ op = 39 ∨ op = 40 ∨ op = 48 ∨ op = 49 ∨ op = 50 ∨ op = 51 ∨ op = 52 ∨ op = 53 ∨ op = 64 ∨ op = 65 ∨ op = 66 ∨ op = 67 ∨ op = 68 ∨ op = 69 := by omega
theorem size_gap {op : Int} (h : op < 0 ∨ (9 ≤ op ∧ op ≤ 15) ∨ (26 ≤ op ∧ op ≤ 31) ∨ (41 ≤ op ∧ op ≤ 47) ∨ (54 ≤ op ∧ op ≤ 63) ∨ 70 ≤ op) : sizeZ op = 0 := by
 unfold sizeZ namedB
 rw [if_neg (by omega), if_neg (by omega), if_neg (by simp; omega)]
noncomputable def f63b : Code := Try.f63.body.getD .skip
theorem f63_body : Try.f63.body = some f63b := by kernel_rfl
theorem f63_fn : T7.fn 63 = some Try.f63 := by kernel_rfl
theorem lit63 {x : Int} (n : Nat) (v : Value) (he : atEnd (goS Try.prog T7 n ⟨20, .code f63b, [], ⟨initTm 0 #[.int .i64 x], hq []⟩⟩) = true := by kernel_rfl) (hp : Try.f63.results.toList.all (presR (goS Try.prog T7 n ⟨20, .code f63b, [], ⟨initTm 0 #[.int .i64 x], hq []⟩⟩).s.tm) = true := by kernel_rfl) (hv : aresults T7 (goS Try.prog T7 n ⟨20, .code f63b, [], ⟨initTm 0 #[.int .i64 x], hq []⟩⟩).s.tm (goS Try.prog T7 n ⟨20, .code f63b, [], ⟨initTm 0 #[.int .i64 x], hq []⟩⟩).s.H Try.f63.results = some v := by kernel_rfl) (hl : subG 0 (goS Try.prog T7 n ⟨20, .code f63b, [], ⟨initTm 0 #[.int .i64 x], hq []⟩⟩).s.H [] 0 [] [] [] = true := by kernel_rfl) (hw : rn2 (emOf []) v = some v := by kernel_rfl) (ho : T7.orc 63 #[.int .i64 x].toList = none := by kernel_rfl) : SCall Try.prog T7 63 #[.int .i64 x] (hq []) fun r h => r = v ∧ h = hq [] := by
 refine scall_sd 20 _ 0 ho f63_fn f63_body rfl rfl rfl fun X hX => ?_
 exact sd_run n (sdY v hX [] [] True.intro ⟨rfl, rfl⟩ he hp hv hl rfl hw)
set_option maxHeartbeats 1000000 in
theorem size_s (op : Int)  : SCall Try.prog T7 63 #[.int .i64 op] (hq []) fun v h => v = .int .i64 (sizeZ op) ∧ h = hq [] := by
 rcases named1 op with h | rfl | rfl | rfl | rfl | rfl | rfl | rfl | rfl | rfl | rfl | rfl | rfl | rfl | rfl | rfl | rfl | rfl | rfl | rfl | rfl | rfl | rfl | rfl | rfl | rfl | rfl | rfl | rfl | rfl | rfl | rfl | rfl | rfl | rfl | rfl | rfl | rfl | rfl | rfl | rfl
 ·skip
  refine scall_sd 20 _ 0 kr f63_fn f63_body rfl rfl rfl fun X hX => ?_
  refine sd_run 16 (sdN 5 (op : Int) 1 (by omega) kr (sd_run 7 (sdN 6 (op : Int) 32 (by omega) kr (sd_run 7 (sdN 7 (op : Int) 33 (by omega) kr (sd_run 7 (sdN 8 (op : Int) 34 (by omega) kr ?_)))))))
  refine sd_run 7 (sdN 9 (op : Int) 35 (by omega) kr (sd_run 7 (sdN 10 (op : Int) 36 (by omega) kr (sd_run 7 (sdN 11 (op : Int) 37 (by omega) kr (sd_run 7 (sdN 12 (op : Int) 38 (by omega) kr ?_)))))))
  refine sd_run 7 (sdN 13 (op : Int) 66 (by omega) kr (sd_run 6 (sdN 14 (op : Int) 67 (by omega) kr (sd_run 7 (sdN 16 (op : Int) 2 (by omega) kr (sd_run 27 (sdN 5 (op : Int) 0 (by omega) kr ?_)))))))
  refine sd_run 7 (sdN 7 (op : Int) 1 (by omega) kr (sd_run 7 (sdN 9 (op : Int) 2 (by omega) kr (sd_run 7 (sdN 11 (op : Int) 3 (by omega) kr (sd_run 7 (sdN 13 (op : Int) 4 (by omega) kr ?_)))))))
  refine sd_run 7 (sdN 15 (op : Int) 5 (by omega) kr (sd_run 7 (sdN 17 (op : Int) 6 (by omega) kr (sd_run 7 (sdN 19 (op : Int) 7 (by omega) kr (sd_run 7 (sdN 21 (op : Int) 8 (by omega) kr ?_)))))))
  refine sd_run 7 (sdN 23 (op : Int) 32 (by omega) kr (sd_run 7 (sdN 25 (op : Int) 33 (by omega) kr (sd_run 7 (sdN 27 (op : Int) 34 (by omega) kr (sd_run 7 (sdN 29 (op : Int) 35 (by omega) kr ?_)))))))
  refine sd_run 7 (sdN 31 (op : Int) 36 (by omega) kr (sd_run 7 (sdN 33 (op : Int) 37 (by omega) kr (sd_run 7 (sdN 35 (op : Int) 38 (by omega) kr (sd_run 7 (sdN 37 (op : Int) 39 (by omega) kr ?_)))))))
  refine sd_run 7 (sdN 39 (op : Int) 40 (by omega) kr (sd_run 26 (sdN 5 (op : Int) 16 (by omega) kr (sd_run 7 (sdN 7 (op : Int) 17 (by omega) kr (sd_run 7 (sdN 9 (op : Int) 18 (by omega) kr ?_)))))))
  refine sd_run 7 (sdN 11 (op : Int) 19 (by omega) kr (sd_run 7 (sdN 13 (op : Int) 20 (by omega) kr (sd_run 7 (sdN 15 (op : Int) 21 (by omega) kr (sd_run 7 (sdN 17 (op : Int) 22 (by omega) kr ?_)))))))
  refine sd_run 7 (sdN 19 (op : Int) 23 (by omega) kr (sd_run 7 (sdN 21 (op : Int) 24 (by omega) kr (sd_run 7 (sdN 23 (op : Int) 25 (by omega) kr (sd_run 7 (sdN 25 (op : Int) 48 (by omega) kr ?_)))))))
  refine sd_run 7 (sdN 27 (op : Int) 49 (by omega) kr (sd_run 7 (sdN 29 (op : Int) 50 (by omega) kr (sd_run 7 (sdN 31 (op : Int) 51 (by omega) kr (sd_run 7 (sdN 33 (op : Int) 52 (by omega) kr ?_)))))))
  refine sd_run 7 (sdN 35 (op : Int) 53 (by omega) kr (sd_run 7 (sdN 37 (op : Int) 64 (by omega) kr (sd_run 7 (sdN 39 (op : Int) 65 (by omega) kr (sd_run 7 (sdN 41 (op : Int) 66 (by omega) kr ?_)))))))
  refine sd_run 7 (sdN 43 (op : Int) 67 (by omega) kr (sd_run 7 (sdN 45 (op : Int) 68 (by omega) kr (sd_run 7 (sdN 47 (op : Int) 69 (by omega) kr (sd_run 30 ?_))))))
  refine sdY (.int .i64 0) hX [] [] True.intro ⟨(congrArg _ (size_gap (by omega)).symm), rfl⟩
 ·exact lit63 137 (.int .i64 1)
 ·exact lit63 31 (.int .i64 2)
 ·exact lit63 97 (.int .i64 5)
 ·exact lit63 158 (.int .i64 1)
 ·exact lit63 165 (.int .i64 1)
 ·exact lit63 172 (.int .i64 1)
 ·exact lit63 179 (.int .i64 1)
 ·exact lit63 186 (.int .i64 1)
 ·exact lit63 193 (.int .i64 1)
 ·exact lit63 287 (.int .i64 1)
 ·exact lit63 294 (.int .i64 1)
 ·exact lit63 301 (.int .i64 1)
 ·exact lit63 308 (.int .i64 1)
 ·exact lit63 315 (.int .i64 1)
 ·exact lit63 322 (.int .i64 1)
 ·exact lit63 329 (.int .i64 1)
 ·exact lit63 336 (.int .i64 1)
 ·exact lit63 343 (.int .i64 1)
 ·exact lit63 350 (.int .i64 1)
 ·exact lit63 38 (.int .i64 2)
 ·exact lit63 45 (.int .i64 2)
 ·exact lit63 52 (.int .i64 2)
 ·exact lit63 59 (.int .i64 2)
 ·exact lit63 66 (.int .i64 2)
 ·exact lit63 73 (.int .i64 2)
 ·exact lit63 80 (.int .i64 2)
 ·exact lit63 249 (.int .i64 1)
 ·exact lit63 256 (.int .i64 1)
 ·exact lit63 357 (.int .i64 1)
 ·exact lit63 364 (.int .i64 1)
 ·exact lit63 371 (.int .i64 1)
 ·exact lit63 378 (.int .i64 1)
 ·exact lit63 385 (.int .i64 1)
 ·exact lit63 392 (.int .i64 1)
 ·exact lit63 399 (.int .i64 1)
 ·exact lit63 406 (.int .i64 1)
 ·exact lit63 87 (.int .i64 2)
 ·exact lit63 90 (.int .i64 2)
 ·exact lit63 427 (.int .i64 1)
 ·exact lit63 434 (.int .i64 1)
def sp63 : List Value → Option Value
 | [.int .i64 op] => some (.int .i64 (sizeZ op))
 | _ => none
noncomputable def T8 : Tab := { T7 with orc := addOrc T7.orc 63 sp63 }
theorem ok_T8 [Bs] : ProgOk Try.prog T8 := ok_T7.know 63 sp63 fun args v h => by
 unfold sp63 at h
 split at h
 ·rename_i op; cases h; exact ⟨rfl, rfl, SCall.data (size_s op) rfl rfl⟩
 ·cases h
instance : OrcDat T8 := orcDat_add inferInstance 63 sp63 fun l v h => by
 unfold sp63 at h
 split at h
 ·cases h; exact ⟨rfl, rfl⟩
 ·cases h
noncomputable def f60b : Code := Try.f60.body.getD .skip
theorem f60_body : Try.f60.body = some f60b := by kernel_rfl
theorem f60_fn : T8.fn 60 = some Try.f60 := by kernel_rfl
theorem rightI_s (op n : Int)  : SCall Try.prog T8 60 #[.agg #[.int .i64 op, .int .u32 n]] (hq []) fun v h => v = .bool (rightI op n) ∧ h = hq [] := by
 refine scall_sd 18 _ 0 kr f60_fn f60_body rfl rfl rfl fun X hX => ?_
 refine sd_run 11 (sd_ask 5 (.int .i64 (sizeZ op)) 63 #[.int .i64 op] kr kr kr rfl (sd_run 9 ?_))
 rcases Bool.eq_false_or_eq_true (((sizeZ op) : Int) == 0) with hc1 | hc1
 ·skip
  refine sd_see 6 (.bool true) (see_bool kr hc1) (sd_run 9 ?_)
  simp only [bd] at hc1
  refine sdY (.bool false) hX [] [] True.intro ⟨(by congr 1; unfold rightI; simp [*]; try (rw [Bool.eq_iff_iff]; simp)), rfl⟩
 ·skip
  refine sd_see 6 (.bool false) (see_bool kr hc1) (sd_run 7 ?_)
  rcases Bool.eq_false_or_eq_true (((sizeZ op) : Int) == 1) with hc2 | hc2
  ·skip
   refine sd_see 8 (.bool true) (see_bool kr hc2) (sd_run 12 ?_)
   simp only [bd] at hc1 hc2
   refine sdY (.bool ((n : Int) == 0)) hX [] [] True.intro ⟨(by congr 1; unfold rightI; simp [*]; try (rw [Bool.eq_iff_iff]; simp)), rfl⟩
  ·skip
   refine sd_see 8 (.bool false) (see_bool kr hc2) (sd_run 7 ?_)
   rcases Bool.eq_false_or_eq_true (((sizeZ op) : Int) == 2) with hc3 | hc3
   ·skip
    refine sd_see 13 (.bool true) (see_bool kr hc3) (sd_run 12 ?_)
    simp only [bd] at hc1 hc2 hc3
    refine sdY (.bool (decide ((n : Int) ≤ 255))) hX [] [] True.intro ⟨(by congr 1; unfold rightI; simp [*]; try (rw [Bool.eq_iff_iff]; simp)), rfl⟩
   ·skip
    refine sd_see 13 (.bool false) (see_bool kr hc3) (sd_run 10 ?_)
    simp only [bd] at hc1 hc2 hc3
    refine sdY (.bool true) hX [] [] True.intro ⟨(by congr 1; unfold rightI; simp [*]; try (rw [Bool.eq_iff_iff]; simp)), rfl⟩
def sp60 : List Value → Option Value
 | [.agg ⟨[.int .i64 op, .int .u32 n]⟩] => some (.bool (rightI op n))
 | _ => none
noncomputable def T9 : Tab := { T8 with orc := addOrc T8.orc 60 sp60 }
theorem ok_T9 [Bs] : ProgOk Try.prog T9 := ok_T8.know 60 sp60 fun args v h => by
 unfold sp60 at h
 split at h
 ·rename_i op n; cases h; exact ⟨rfl, rfl, SCall.data (rightI_s op n) rfl rfl⟩
 ·cases h
instance : OrcDat T9 := orcDat_add inferInstance 60 sp60 fun l v h => by
 unfold sp60 at h
 split at h
 ·cases h; exact ⟨rfl, rfl⟩
 ·cases h
noncomputable def f61b : Code := Try.f61.body.getD .skip
theorem f61_body : Try.f61.body = some f61b := by kernel_rfl
theorem f61_fn : T9.fn 61 = some Try.f61 := by kernel_rfl
theorem plainB_s (op : Int)  : SCall Try.prog T9 61 #[.int .i64 op] (hq []) fun v h => v = .bool (plainB op) ∧ h = hq [] := by
 refine scall_sd 26 _ 0 kr f61_fn f61_body rfl rfl rfl fun X hX => ?_
 refine sd_run 13 ?_
 rcases Bool.eq_false_or_eq_true (decide ((op : Int) ≥ 0)) with hc1 | hc1
 ·skip
  refine sd_see 6 (.bool true) (see_bool kr hc1) (sd_run 6 ?_)
  rcases Bool.eq_false_or_eq_true (decide ((op : Int) ≤ 8)) with hc2 | hc2
  ·skip
   refine sd_see 3 (.bool true) (see_bool kr hc2) (sd_run 12 ?_)
   simp only [bd] at hc1 hc2
   refine sdY (.bool true) hX [] [] True.intro ⟨(by congr 1; unfold plainB; rw [Bool.eq_iff_iff]; simp; omega), rfl⟩
  ·skip
   refine sd_see 3 (.bool false) (see_bool kr hc2) (sd_run 5 ?_)
   rcases Bool.eq_false_or_eq_true (decide ((op : Int) ≥ 32)) with hc3 | hc3
   ·skip
    refine sd_see 12 (.bool true) (see_bool kr hc3) (sd_run 6 ?_)
    rcases Bool.eq_false_or_eq_true (decide ((op : Int) ≤ 40)) with hc4 | hc4
    ·skip
     refine sd_see 3 (.bool true) (see_bool kr hc4) (sd_run 9 ?_)
     simp only [bd] at hc1 hc2 hc3 hc4
     refine sdY (.bool true) hX [] [] True.intro ⟨(by congr 1; unfold plainB; rw [Bool.eq_iff_iff]; simp; omega), rfl⟩
    ·skip
     refine sd_see 3 (.bool false) (see_bool kr hc4) (sd_run 9 ?_)
     rcases Bool.eq_false_or_eq_true (decide ((op : Int) ≥ 16)) with hc5 | hc5
     ·skip
      refine sd_see 18 (.bool true) (see_bool kr hc5) (sd_run 4 ?_)
      rcases Bool.eq_false_or_eq_true (decide ((op : Int) ≤ 25)) with hc6 | hc6
      ·skip
       refine sd_see 22 (.bool true) (see_bool kr hc6) (sd_run 7 ?_)
       rcases Bool.eq_false_or_eq_true ((op : Int) != 24) with hc7 | hc7
       ·skip
        refine sd_see 2 (.bool true) (see_bool kr hc7) ?_
        simp only [bd] at hc1 hc2 hc3 hc4 hc5 hc6 hc7
        refine sdY (.bool true) hX [] [] True.intro ⟨(by congr 1; unfold plainB; rw [Bool.eq_iff_iff]; simp; omega), rfl⟩
       ·skip
        refine sd_see 2 (.bool false) (see_bool kr hc7) ?_
        simp only [bd] at hc1 hc2 hc3 hc4 hc5 hc6 hc7
        refine sdY (.bool false) hX [] [] True.intro ⟨(by congr 1; unfold plainB; rw [Bool.eq_iff_iff]; simp; omega), rfl⟩
      ·skip
       refine sd_see 22 (.bool false) (see_bool kr hc6) (sd_run 7 ?_)
       simp only [bd] at hc1 hc2 hc3 hc4 hc5 hc6
       refine sdY (.bool false) hX [] [] True.intro ⟨(by congr 1; unfold plainB; rw [Bool.eq_iff_iff]; simp; omega), rfl⟩
     ·skip
      refine sd_see 18 (.bool false) (see_bool kr hc5) (sd_run 11 ?_)
      simp only [bd] at hc1 hc2 hc3 hc4 hc5
      refine sdY (.bool false) hX [] [] True.intro ⟨(by congr 1; unfold plainB; rw [Bool.eq_iff_iff]; simp; omega), rfl⟩
   ·skip
    refine sd_see 12 (.bool false) (see_bool kr hc3) (sd_run 15 ?_)
    rcases Bool.eq_false_or_eq_true (decide ((op : Int) ≥ 16)) with hc8 | hc8
    ·skip
     refine sd_see 18 (.bool true) (see_bool kr hc8) (sd_run 4 ?_)
     rcases Bool.eq_false_or_eq_true (decide ((op : Int) ≤ 25)) with hc9 | hc9
     ·skip
      refine sd_see 22 (.bool true) (see_bool kr hc9) (sd_run 7 ?_)
      rcases Bool.eq_false_or_eq_true ((op : Int) != 24) with hc10 | hc10
      ·skip
       refine sd_see 2 (.bool true) (see_bool kr hc10) ?_
       simp only [bd] at hc1 hc2 hc3 hc8 hc9 hc10
       refine sdY (.bool true) hX [] [] True.intro ⟨(by congr 1; unfold plainB; rw [Bool.eq_iff_iff]; simp; omega), rfl⟩
      ·skip
       refine sd_see 2 (.bool false) (see_bool kr hc10) ?_
       simp only [bd] at hc1 hc2 hc3 hc8 hc9 hc10
       refine sdY (.bool false) hX [] [] True.intro ⟨(by congr 1; unfold plainB; rw [Bool.eq_iff_iff]; simp; omega), rfl⟩
     ·skip
      refine sd_see 22 (.bool false) (see_bool kr hc9) (sd_run 7 ?_)
      simp only [bd] at hc1 hc2 hc3 hc8 hc9
      refine sdY (.bool false) hX [] [] True.intro ⟨(by congr 1; unfold plainB; rw [Bool.eq_iff_iff]; simp; omega), rfl⟩
    ·skip
     refine sd_see 18 (.bool false) (see_bool kr hc8) (sd_run 11 ?_)
     simp only [bd] at hc1 hc2 hc3 hc8
     refine sdY (.bool false) hX [] [] True.intro ⟨(by congr 1; unfold plainB; rw [Bool.eq_iff_iff]; simp; omega), rfl⟩
 ·skip
  refine sd_see 6 (.bool false) (see_bool kr hc1) (sd_run 11 ?_)
  rcases Bool.eq_false_or_eq_true (decide ((op : Int) ≥ 32)) with hc11 | hc11
  ·skip
   refine sd_see 12 (.bool true) (see_bool kr hc11) (sd_run 6 ?_)
   rcases Bool.eq_false_or_eq_true (decide ((op : Int) ≤ 40)) with hc12 | hc12
   ·skip
    refine sd_see 3 (.bool true) (see_bool kr hc12) (sd_run 9 ?_)
    simp only [bd] at hc1 hc11 hc12
    refine sdY (.bool true) hX [] [] True.intro ⟨(by congr 1; unfold plainB; rw [Bool.eq_iff_iff]; simp; omega), rfl⟩
   ·skip
    refine sd_see 3 (.bool false) (see_bool kr hc12) (sd_run 9 ?_)
    rcases Bool.eq_false_or_eq_true (decide ((op : Int) ≥ 16)) with hc13 | hc13
    ·skip
     refine sd_see 18 (.bool true) (see_bool kr hc13) (sd_run 4 ?_)
     rcases Bool.eq_false_or_eq_true (decide ((op : Int) ≤ 25)) with hc14 | hc14
     ·skip
      refine sd_see 22 (.bool true) (see_bool kr hc14) (sd_run 7 ?_)
      rcases Bool.eq_false_or_eq_true ((op : Int) != 24) with hc15 | hc15
      ·skip
       refine sd_see 2 (.bool true) (see_bool kr hc15) ?_
       simp only [bd] at hc1 hc11 hc12 hc13 hc14 hc15
       refine sdY (.bool true) hX [] [] True.intro ⟨(by congr 1; unfold plainB; rw [Bool.eq_iff_iff]; simp; omega), rfl⟩
      ·skip
       refine sd_see 2 (.bool false) (see_bool kr hc15) ?_
       simp only [bd] at hc1 hc11 hc12 hc13 hc14 hc15
       refine sdY (.bool false) hX [] [] True.intro ⟨(by congr 1; unfold plainB; rw [Bool.eq_iff_iff]; simp; omega), rfl⟩
     ·skip
      refine sd_see 22 (.bool false) (see_bool kr hc14) (sd_run 7 ?_)
      simp only [bd] at hc1 hc11 hc12 hc13 hc14
      refine sdY (.bool false) hX [] [] True.intro ⟨(by congr 1; unfold plainB; rw [Bool.eq_iff_iff]; simp; omega), rfl⟩
    ·skip
     refine sd_see 18 (.bool false) (see_bool kr hc13) (sd_run 11 ?_)
     simp only [bd] at hc1 hc11 hc12 hc13
     refine sdY (.bool false) hX [] [] True.intro ⟨(by congr 1; unfold plainB; rw [Bool.eq_iff_iff]; simp; omega), rfl⟩
  ·skip
   refine sd_see 12 (.bool false) (see_bool kr hc11) (sd_run 15 ?_)
   rcases Bool.eq_false_or_eq_true (decide ((op : Int) ≥ 16)) with hc16 | hc16
   ·skip
    refine sd_see 18 (.bool true) (see_bool kr hc16) (sd_run 4 ?_)
    rcases Bool.eq_false_or_eq_true (decide ((op : Int) ≤ 25)) with hc17 | hc17
    ·skip
     refine sd_see 22 (.bool true) (see_bool kr hc17) (sd_run 7 ?_)
     rcases Bool.eq_false_or_eq_true ((op : Int) != 24) with hc18 | hc18
     ·skip
      refine sd_see 2 (.bool true) (see_bool kr hc18) ?_
      simp only [bd] at hc1 hc11 hc16 hc17 hc18
      refine sdY (.bool true) hX [] [] True.intro ⟨(by congr 1; unfold plainB; rw [Bool.eq_iff_iff]; simp; omega), rfl⟩
     ·skip
      refine sd_see 2 (.bool false) (see_bool kr hc18) ?_
      simp only [bd] at hc1 hc11 hc16 hc17 hc18
      refine sdY (.bool false) hX [] [] True.intro ⟨(by congr 1; unfold plainB; rw [Bool.eq_iff_iff]; simp; omega), rfl⟩
    ·skip
     refine sd_see 22 (.bool false) (see_bool kr hc17) (sd_run 7 ?_)
     simp only [bd] at hc1 hc11 hc16 hc17
     refine sdY (.bool false) hX [] [] True.intro ⟨(by congr 1; unfold plainB; rw [Bool.eq_iff_iff]; simp; omega), rfl⟩
   ·skip
    refine sd_see 18 (.bool false) (see_bool kr hc16) (sd_run 11 ?_)
    simp only [bd] at hc1 hc11 hc16
    refine sdY (.bool false) hX [] [] True.intro ⟨(by congr 1; unfold plainB; rw [Bool.eq_iff_iff]; simp; omega), rfl⟩
def sp61 : List Value → Option Value
 | [.int .i64 op] => some (.bool (plainB op))
 | _ => none
noncomputable def T10 : Tab := { T9 with orc := addOrc T9.orc 61 sp61 }
theorem ok_T10 [Bs] : ProgOk Try.prog T10 := ok_T9.know 61 sp61 fun args v h => by
 unfold sp61 at h
 split at h
 ·rename_i op; cases h; exact ⟨rfl, rfl, SCall.data (plainB_s op) rfl rfl⟩
 ·cases h
instance : OrcDat T10 := orcDat_add inferInstance 61 sp61 fun l v h => by
 unfold sp61 at h
 split at h
 ·cases h; exact ⟨rfl, rfl⟩
 ·cases h
noncomputable def f62b : Code := Try.f62.body.getD .skip
theorem f62_body : Try.f62.body = some f62b := by kernel_rfl
theorem f62_fn : T10.fn 62 = some Try.f62 := by kernel_rfl
theorem endsB_s (op : Int)  : SCall Try.prog T10 62 #[.int .i64 op] (hq []) fun v h => v = .bool (endsB op) ∧ h = hq [] := by
 refine scall_sd 17 _ 0 kr f62_fn f62_body rfl rfl rfl fun X hX => ?_
 refine sd_run 10 ?_
 rcases Bool.eq_false_or_eq_true (decide ((op : Int) ≥ 32)) with hc1 | hc1
 ·skip
  refine sd_see 5 (.bool true) (see_bool kr hc1) (sd_run 4 ?_)
  rcases Bool.eq_false_or_eq_true (decide ((op : Int) ≤ 40)) with hc2 | hc2
  ·skip
   refine sd_see 9 (.bool true) (see_bool kr hc2) (sd_run 11 ?_)
   simp only [bd] at hc1 hc2
   refine sdY (.bool true) hX [] [] True.intro ⟨(by congr 1; unfold endsB; rw [Bool.eq_iff_iff]; simp; omega), rfl⟩
  ·skip
   refine sd_see 9 (.bool false) (see_bool kr hc2) (sd_run 3 ?_)
   rcases Bool.eq_false_or_eq_true (decide ((op : Int) ≥ 64)) with hc3 | hc3
   ·skip
    refine sd_see 12 (.bool true) (see_bool kr hc3) (sd_run 8 ?_)
    rcases Bool.eq_false_or_eq_true (decide ((op : Int) ≤ 69)) with hc4 | hc4
    ·skip
     refine sd_see 2 (.bool true) (see_bool kr hc4) ?_
     simp only [bd] at hc1 hc2 hc3 hc4
     refine sdY (.bool true) hX [] [] True.intro ⟨(by congr 1; unfold endsB; rw [Bool.eq_iff_iff]; simp; omega), rfl⟩
    ·skip
     refine sd_see 2 (.bool false) (see_bool kr hc4) ?_
     simp only [bd] at hc1 hc2 hc3 hc4
     refine sdY (.bool false) hX [] [] True.intro ⟨(by congr 1; unfold endsB; rw [Bool.eq_iff_iff]; simp; omega), rfl⟩
   ·skip
    refine sd_see 12 (.bool false) (see_bool kr hc3) (sd_run 8 ?_)
    simp only [bd] at hc1 hc2 hc3
    refine sdY (.bool false) hX [] [] True.intro ⟨(by congr 1; unfold endsB; rw [Bool.eq_iff_iff]; simp; omega), rfl⟩
 ·skip
  refine sd_see 5 (.bool false) (see_bool kr hc1) (sd_run 7 ?_)
  rcases Bool.eq_false_or_eq_true (decide ((op : Int) ≥ 64)) with hc5 | hc5
  ·skip
   refine sd_see 12 (.bool true) (see_bool kr hc5) (sd_run 8 ?_)
   rcases Bool.eq_false_or_eq_true (decide ((op : Int) ≤ 69)) with hc6 | hc6
   ·skip
    refine sd_see 2 (.bool true) (see_bool kr hc6) ?_
    simp only [bd] at hc1 hc5 hc6
    refine sdY (.bool true) hX [] [] True.intro ⟨(by congr 1; unfold endsB; rw [Bool.eq_iff_iff]; simp; omega), rfl⟩
   ·skip
    refine sd_see 2 (.bool false) (see_bool kr hc6) ?_
    simp only [bd] at hc1 hc5 hc6
    refine sdY (.bool false) hX [] [] True.intro ⟨(by congr 1; unfold endsB; rw [Bool.eq_iff_iff]; simp; omega), rfl⟩
  ·skip
   refine sd_see 12 (.bool false) (see_bool kr hc5) (sd_run 8 ?_)
   simp only [bd] at hc1 hc5
   refine sdY (.bool false) hX [] [] True.intro ⟨(by congr 1; unfold endsB; rw [Bool.eq_iff_iff]; simp; omega), rfl⟩
def sp62 : List Value → Option Value
 | [.int .i64 op] => some (.bool (endsB op))
 | _ => none
noncomputable def T11 : Tab := { T10 with orc := addOrc T10.orc 62 sp62 }
theorem ok_T11 [Bs] : ProgOk Try.prog T11 := ok_T10.know 62 sp62 fun args v h => by
 unfold sp62 at h
 split at h
 ·rename_i op; cases h; exact ⟨rfl, rfl, SCall.data (endsB_s op) rfl rfl⟩
 ·cases h
instance : OrcDat T11 := orcDat_add inferInstance 62 sp62 fun l v h => by
 unfold sp62 at h
 split at h
 ·cases h; exact ⟨rfl, rfl⟩
 ·cases h
noncomputable def f65b : Code := Try.f65.body.getD .skip
theorem f65_body : Try.f65.body = some f65b := by kernel_rfl
theorem f65_fn : T11.fn 65 = some Try.f65 := by kernel_rfl
theorem sign_s (n : Int)  : SCall Try.prog T11 65 #[.int .u32 n] (hq []) fun v h => v = .int .u32 (signZ n) ∧ h = hq [] := by
 refine scall_sd 7 _ 0 kr f65_fn f65_body rfl rfl rfl fun X hX => ?_
 refine sd_run 15 ?_
 refine sdY (.int .u32 (IntKind.u32.wrap (IntKind.i32.wrap (IntKind.i8.wrap n)))) hX [] [] True.intro ⟨rfl, rfl⟩
def sp65 : List Value → Option Value
 | [.int .u32 n] => some (.int .u32 (signZ n))
 | _ => none
noncomputable def T12 : Tab := { T11 with orc := addOrc T11.orc 65 sp65 }
theorem ok_T12 [Bs] : ProgOk Try.prog T12 := ok_T11.know 65 sp65 fun args v h => by
 unfold sp65 at h
 split at h
 ·rename_i n; cases h; exact ⟨rfl, rfl, SCall.data (sign_s n) rfl rfl⟩
 ·cases h
instance : OrcDat T12 := orcDat_add inferInstance 65 sp65 fun l v h => by
 unfold sp65 at h
 split at h
 ·cases h; exact ⟨rfl, rfl⟩
 ·cases h
noncomputable def f77b : Code := Try.f77.body.getD .skip
theorem f77_body : Try.f77.body = some f77b := by kernel_rfl
theorem f77_fn : T12.fn 77 = some Try.f77 := by kernel_rfl
theorem lit77 {x : Int} (n : Nat) (v : Value) (he : atEnd (goS Try.prog T12 n ⟨64, .code f77b, [], ⟨initTm 0 #[.int .i64 x], hq []⟩⟩) = true := by kernel_rfl) (hp : Try.f77.results.toList.all (presR (goS Try.prog T12 n ⟨64, .code f77b, [], ⟨initTm 0 #[.int .i64 x], hq []⟩⟩).s.tm) = true := by kernel_rfl) (hv : aresults T12 (goS Try.prog T12 n ⟨64, .code f77b, [], ⟨initTm 0 #[.int .i64 x], hq []⟩⟩).s.tm (goS Try.prog T12 n ⟨64, .code f77b, [], ⟨initTm 0 #[.int .i64 x], hq []⟩⟩).s.H Try.f77.results = some v := by kernel_rfl) (hl : subG 0 (goS Try.prog T12 n ⟨64, .code f77b, [], ⟨initTm 0 #[.int .i64 x], hq []⟩⟩).s.H [] 0 [] [] [] = true := by kernel_rfl) (hw : rn2 (emOf []) v = some v := by kernel_rfl) (ho : T12.orc 77 #[.int .i64 x].toList = none := by kernel_rfl) : SCall Try.prog T12 77 #[.int .i64 x] (hq []) fun r h => r = v ∧ h = hq [] := by
 refine scall_sd 64 _ 0 ho f77_fn f77_body rfl rfl rfl fun X hX => ?_
 exact sd_run n (sdY v hX [] [] True.intro ⟨rfl, rfl⟩ he hp hv hl rfl hw)
set_option maxHeartbeats 1000000 in
theorem size2_s (op : Int)  : SCall Try.prog T12 77 #[.int .i64 op] (hq []) fun v h => v = .int .i64 (sizeZ op) ∧ h = hq [] := by
 rcases named_cases op with h | h | h | h | h | h | rfl | rfl | rfl | rfl | rfl | rfl | rfl | rfl | rfl | rfl | rfl | rfl | rfl | rfl | rfl | rfl | rfl | rfl | rfl | rfl | rfl | rfl | rfl | rfl | rfl | rfl | rfl | rfl | rfl | rfl | rfl | rfl | rfl | rfl | rfl | rfl | rfl | rfl | rfl | rfl
 ·skip
  refine scall_sd 64 _ 0 kr f77_fn f77_body rfl rfl rfl fun X hX => ?_
  refine sd_run 11 (sdN 5 (op : Int) 2 (by omega) kr (sd_run 8 (sdN 8 (op : Int) 1 (by omega) kr (sd_run 3 (sdF 11 ((op : Int) ≥ 32) (by omega) kr (sd_run 8 (sdN 19 (op : Int) 66 (by omega) kr ?_)))))))
  refine sd_run 4 (sdN 23 (op : Int) 67 (by omega) kr (sd_run 9 (sdF 27 ((op : Int) ≥ 0) (by omega) kr (sd_run 7 (sdF 34 ((op : Int) ≥ 16) (by omega) kr (sd_run 8 (sdN 42 (op : Int) 39 (by omega) kr ?_)))))))
  refine sd_run 4 (sdN 46 (op : Int) 40 (by omega) kr (sd_run 4 (sdF 50 ((op : Int) ≥ 48) (by omega) kr (sd_run 8 (sdF 58 ((op : Int) ≥ 64) (by omega) kr (sd_run 18 ?_))))))
  refine sdY (.int .i64 0) hX [] [] True.intro ⟨(congrArg _ (size_gap (by omega)).symm), rfl⟩
 ·skip
  refine scall_sd 64 _ 0 kr f77_fn f77_body rfl rfl rfl fun X hX => ?_
  refine sd_run 11 (sdN 5 (op : Int) 2 (by omega) kr (sd_run 8 (sdN 8 (op : Int) 1 (by omega) kr (sd_run 3 (sdF 11 ((op : Int) ≥ 32) (by omega) kr (sd_run 8 (sdN 19 (op : Int) 66 (by omega) kr ?_)))))))
  refine sd_run 4 (sdN 23 (op : Int) 67 (by omega) kr (sd_run 9 (sdT 27 ((op : Int) ≥ 0) (by omega) kr (sd_run 3 (sdF 30 ((op : Int) ≤ 8) (by omega) kr (sd_run 4 (sdF 34 ((op : Int) ≥ 16) (by omega) kr ?_)))))))
  refine sd_run 8 (sdN 42 (op : Int) 39 (by omega) kr (sd_run 4 (sdN 46 (op : Int) 40 (by omega) kr (sd_run 4 (sdF 50 ((op : Int) ≥ 48) (by omega) kr (sd_run 8 (sdF 58 ((op : Int) ≥ 64) (by omega) kr ?_)))))))
  refine sd_run 18 ?_
  refine sdY (.int .i64 0) hX [] [] True.intro ⟨(congrArg _ (size_gap (by omega)).symm), rfl⟩
 ·skip
  refine scall_sd 64 _ 0 kr f77_fn f77_body rfl rfl rfl fun X hX => ?_
  refine sd_run 11 (sdN 5 (op : Int) 2 (by omega) kr (sd_run 8 (sdN 8 (op : Int) 1 (by omega) kr (sd_run 3 (sdF 11 ((op : Int) ≥ 32) (by omega) kr (sd_run 8 (sdN 19 (op : Int) 66 (by omega) kr ?_)))))))
  refine sd_run 4 (sdN 23 (op : Int) 67 (by omega) kr (sd_run 9 (sdT 27 ((op : Int) ≥ 0) (by omega) kr (sd_run 3 (sdF 30 ((op : Int) ≤ 8) (by omega) kr (sd_run 4 (sdT 34 ((op : Int) ≥ 16) (by omega) kr ?_)))))))
  refine sd_run 3 (sdF 37 ((op : Int) ≤ 25) (by omega) kr (sd_run 5 (sdN 42 (op : Int) 39 (by omega) kr (sd_run 4 (sdN 46 (op : Int) 40 (by omega) kr (sd_run 4 (sdF 50 ((op : Int) ≥ 48) (by omega) kr ?_)))))))
  refine sd_run 8 (sdF 58 ((op : Int) ≥ 64) (by omega) kr (sd_run 18 ?_))
  refine sdY (.int .i64 0) hX [] [] True.intro ⟨(congrArg _ (size_gap (by omega)).symm), rfl⟩
 ·skip
  refine scall_sd 64 _ 0 kr f77_fn f77_body rfl rfl rfl fun X hX => ?_
  refine sd_run 11 (sdN 5 (op : Int) 2 (by omega) kr (sd_run 8 (sdN 8 (op : Int) 1 (by omega) kr (sd_run 3 (sdT 11 ((op : Int) ≥ 32) (by omega) kr (sd_run 3 (sdF 14 ((op : Int) ≤ 38) (by omega) kr ?_)))))))
  refine sd_run 5 (sdN 19 (op : Int) 66 (by omega) kr (sd_run 4 (sdN 23 (op : Int) 67 (by omega) kr (sd_run 9 (sdT 27 ((op : Int) ≥ 0) (by omega) kr (sd_run 3 (sdF 30 ((op : Int) ≤ 8) (by omega) kr ?_)))))))
  refine sd_run 4 (sdT 34 ((op : Int) ≥ 16) (by omega) kr (sd_run 3 (sdF 37 ((op : Int) ≤ 25) (by omega) kr (sd_run 5 (sdN 42 (op : Int) 39 (by omega) kr (sd_run 4 (sdN 46 (op : Int) 40 (by omega) kr ?_)))))))
  refine sd_run 4 (sdF 50 ((op : Int) ≥ 48) (by omega) kr (sd_run 8 (sdF 58 ((op : Int) ≥ 64) (by omega) kr (sd_run 18 ?_))))
  refine sdY (.int .i64 0) hX [] [] True.intro ⟨(congrArg _ (size_gap (by omega)).symm), rfl⟩
 ·skip
  refine scall_sd 64 _ 0 kr f77_fn f77_body rfl rfl rfl fun X hX => ?_
  refine sd_run 11 (sdN 5 (op : Int) 2 (by omega) kr (sd_run 8 (sdN 8 (op : Int) 1 (by omega) kr (sd_run 3 (sdT 11 ((op : Int) ≥ 32) (by omega) kr (sd_run 3 (sdF 14 ((op : Int) ≤ 38) (by omega) kr ?_)))))))
  refine sd_run 5 (sdN 19 (op : Int) 66 (by omega) kr (sd_run 4 (sdN 23 (op : Int) 67 (by omega) kr (sd_run 9 (sdT 27 ((op : Int) ≥ 0) (by omega) kr (sd_run 3 (sdF 30 ((op : Int) ≤ 8) (by omega) kr ?_)))))))
  refine sd_run 4 (sdT 34 ((op : Int) ≥ 16) (by omega) kr (sd_run 3 (sdF 37 ((op : Int) ≤ 25) (by omega) kr (sd_run 5 (sdN 42 (op : Int) 39 (by omega) kr (sd_run 4 (sdN 46 (op : Int) 40 (by omega) kr ?_)))))))
  refine sd_run 4 (sdT 50 ((op : Int) ≥ 48) (by omega) kr (sd_run 3 (sdF 53 ((op : Int) ≤ 53) (by omega) kr (sd_run 5 (sdF 58 ((op : Int) ≥ 64) (by omega) kr (sd_run 18 ?_))))))
  refine sdY (.int .i64 0) hX [] [] True.intro ⟨(congrArg _ (size_gap (by omega)).symm), rfl⟩
 ·skip
  refine scall_sd 64 _ 0 kr f77_fn f77_body rfl rfl rfl fun X hX => ?_
  refine sd_run 11 (sdN 5 (op : Int) 2 (by omega) kr (sd_run 8 (sdN 8 (op : Int) 1 (by omega) kr (sd_run 3 (sdT 11 ((op : Int) ≥ 32) (by omega) kr (sd_run 3 (sdF 14 ((op : Int) ≤ 38) (by omega) kr ?_)))))))
  refine sd_run 5 (sdN 19 (op : Int) 66 (by omega) kr (sd_run 4 (sdN 23 (op : Int) 67 (by omega) kr (sd_run 9 (sdT 27 ((op : Int) ≥ 0) (by omega) kr (sd_run 3 (sdF 30 ((op : Int) ≤ 8) (by omega) kr ?_)))))))
  refine sd_run 4 (sdT 34 ((op : Int) ≥ 16) (by omega) kr (sd_run 3 (sdF 37 ((op : Int) ≤ 25) (by omega) kr (sd_run 5 (sdN 42 (op : Int) 39 (by omega) kr (sd_run 4 (sdN 46 (op : Int) 40 (by omega) kr ?_)))))))
  refine sd_run 4 (sdT 50 ((op : Int) ≥ 48) (by omega) kr (sd_run 3 (sdF 53 ((op : Int) ≤ 53) (by omega) kr (sd_run 5 (sdT 58 ((op : Int) ≥ 64) (by omega) kr (sd_run 3 (sdF 61 ((op : Int) ≤ 69) (by omega) kr ?_)))))))
  refine sd_run 15 ?_
  refine sdY (.int .i64 0) hX [] [] True.intro ⟨(congrArg _ (size_gap (by omega)).symm), rfl⟩
 ·exact lit77 91 (.int .i64 1)
 ·exact lit77 47 (.int .i64 2)
 ·exact lit77 23 (.int .i64 5)
 ·exact lit77 91 (.int .i64 1)
 ·exact lit77 91 (.int .i64 1)
 ·exact lit77 91 (.int .i64 1)
 ·exact lit77 91 (.int .i64 1)
 ·exact lit77 91 (.int .i64 1)
 ·exact lit77 91 (.int .i64 1)
 ·exact lit77 91 (.int .i64 1)
 ·exact lit77 91 (.int .i64 1)
 ·exact lit77 91 (.int .i64 1)
 ·exact lit77 91 (.int .i64 1)
 ·exact lit77 91 (.int .i64 1)
 ·exact lit77 91 (.int .i64 1)
 ·exact lit77 91 (.int .i64 1)
 ·exact lit77 91 (.int .i64 1)
 ·exact lit77 91 (.int .i64 1)
 ·exact lit77 91 (.int .i64 1)
 ·exact lit77 47 (.int .i64 2)
 ·exact lit77 47 (.int .i64 2)
 ·exact lit77 47 (.int .i64 2)
 ·exact lit77 47 (.int .i64 2)
 ·exact lit77 47 (.int .i64 2)
 ·exact lit77 47 (.int .i64 2)
 ·exact lit77 47 (.int .i64 2)
 ·exact lit77 91 (.int .i64 1)
 ·exact lit77 91 (.int .i64 1)
 ·exact lit77 91 (.int .i64 1)
 ·exact lit77 91 (.int .i64 1)
 ·exact lit77 91 (.int .i64 1)
 ·exact lit77 91 (.int .i64 1)
 ·exact lit77 91 (.int .i64 1)
 ·exact lit77 91 (.int .i64 1)
 ·exact lit77 91 (.int .i64 1)
 ·exact lit77 91 (.int .i64 1)
 ·exact lit77 47 (.int .i64 2)
 ·exact lit77 47 (.int .i64 2)
 ·exact lit77 91 (.int .i64 1)
 ·exact lit77 91 (.int .i64 1)
def sp77 : List Value → Option Value
 | [.int .i64 op] => some (.int .i64 (sizeZ op))
 | _ => none
noncomputable def T13 : Tab := { T12 with orc := addOrc T12.orc 77 sp77 }
theorem ok_T13 [Bs] : ProgOk Try.prog T13 := ok_T12.know 77 sp77 fun args v h => by
 unfold sp77 at h
 split at h
 ·rename_i op; cases h; exact ⟨rfl, rfl, SCall.data (size2_s op) rfl rfl⟩
 ·cases h
instance : OrcDat T13 := orcDat_add inferInstance 77 sp77 fun l v h => by
 unfold sp77 at h
 split at h
 ·cases h; exact ⟨rfl, rfl⟩
 ·cases h
noncomputable def f58b : Code := Try.f58.body.getD .skip
theorem f58_body : Try.f58.body = some f58b := by kernel_rfl
theorem f58_fn : T13.fn 58 = some Try.f58 := by kernel_rfl
theorem plainB2_s (op : Int)  : SCall Try.prog T13 58 #[.int .i64 op] (hq []) fun v h => v = .bool (plainB op) ∧ h = hq [] := by
 refine scall_sd 29 _ 0 kr f58_fn f58_body rfl rfl rfl fun X hX => ?_
 refine sd_run 10 ?_
 rcases Bool.eq_false_or_eq_true (decide ((op : Int) ≥ 0)) with hc1 | hc1
 ·skip
  refine sd_see 5 (.bool true) (see_bool kr hc1) (sd_run 4 ?_)
  rcases Bool.eq_false_or_eq_true (decide ((op : Int) ≤ 8)) with hc2 | hc2
  ·skip
   refine sd_see 9 (.bool true) (see_bool kr hc2) (sd_run 23 ?_)
   simp only [bd] at hc1 hc2
   refine sdY (.bool true) hX [] [] True.intro ⟨(by congr 1; unfold plainB; rw [Bool.eq_iff_iff]; simp; omega), rfl⟩
  ·skip
   refine sd_see 9 (.bool false) (see_bool kr hc2) (sd_run 3 ?_)
   rcases Bool.eq_false_or_eq_true (decide ((op : Int) ≥ 16)) with hc3 | hc3
   ·skip
    refine sd_see 12 (.bool true) (see_bool kr hc3) (sd_run 4 ?_)
    rcases Bool.eq_false_or_eq_true (decide ((op : Int) ≤ 25)) with hc4 | hc4
    ·skip
     refine sd_see 16 (.bool true) (see_bool kr hc4) (sd_run 5 ?_)
     rcases Bool.eq_false_or_eq_true ((op : Int) != 24) with hc5 | hc5
     ·skip
      refine sd_see 21 (.bool true) (see_bool kr hc5) (sd_run 11 ?_)
      simp only [bd] at hc1 hc2 hc3 hc4 hc5
      refine sdY (.bool true) hX [] [] True.intro ⟨(by congr 1; unfold plainB; rw [Bool.eq_iff_iff]; simp; omega), rfl⟩
     ·skip
      refine sd_see 21 (.bool false) (see_bool kr hc5) (sd_run 3 ?_)
      rcases Bool.eq_false_or_eq_true (decide ((op : Int) ≥ 32)) with hc6 | hc6
      ·skip
       refine sd_see 24 (.bool true) (see_bool kr hc6) (sd_run 8 ?_)
       rcases Bool.eq_false_or_eq_true (decide ((op : Int) ≤ 40)) with hc7 | hc7
       ·skip
        refine sd_see 2 (.bool true) (see_bool kr hc7) ?_
        simp only [bd] at hc1 hc2 hc3 hc4 hc5 hc6 hc7
        refine sdY (.bool true) hX [] [] True.intro ⟨(by congr 1; unfold plainB; rw [Bool.eq_iff_iff]; simp; omega), rfl⟩
       ·skip
        refine sd_see 2 (.bool false) (see_bool kr hc7) ?_
        simp only [bd] at hc1 hc2 hc3 hc4 hc5 hc6 hc7
        refine sdY (.bool false) hX [] [] True.intro ⟨(by congr 1; unfold plainB; rw [Bool.eq_iff_iff]; simp; omega), rfl⟩
      ·skip
       refine sd_see 24 (.bool false) (see_bool kr hc6) (sd_run 8 ?_)
       simp only [bd] at hc1 hc2 hc3 hc4 hc5 hc6
       refine sdY (.bool false) hX [] [] True.intro ⟨(by congr 1; unfold plainB; rw [Bool.eq_iff_iff]; simp; omega), rfl⟩
    ·skip
     refine sd_see 16 (.bool false) (see_bool kr hc4) (sd_run 8 ?_)
     rcases Bool.eq_false_or_eq_true (decide ((op : Int) ≥ 32)) with hc8 | hc8
     ·skip
      refine sd_see 24 (.bool true) (see_bool kr hc8) (sd_run 8 ?_)
      rcases Bool.eq_false_or_eq_true (decide ((op : Int) ≤ 40)) with hc9 | hc9
      ·skip
       refine sd_see 2 (.bool true) (see_bool kr hc9) ?_
       simp only [bd] at hc1 hc2 hc3 hc4 hc8 hc9
       refine sdY (.bool true) hX [] [] True.intro ⟨(by congr 1; unfold plainB; rw [Bool.eq_iff_iff]; simp; omega), rfl⟩
      ·skip
       refine sd_see 2 (.bool false) (see_bool kr hc9) ?_
       simp only [bd] at hc1 hc2 hc3 hc4 hc8 hc9
       refine sdY (.bool false) hX [] [] True.intro ⟨(by congr 1; unfold plainB; rw [Bool.eq_iff_iff]; simp; omega), rfl⟩
     ·skip
      refine sd_see 24 (.bool false) (see_bool kr hc8) (sd_run 8 ?_)
      simp only [bd] at hc1 hc2 hc3 hc4 hc8
      refine sdY (.bool false) hX [] [] True.intro ⟨(by congr 1; unfold plainB; rw [Bool.eq_iff_iff]; simp; omega), rfl⟩
   ·skip
    refine sd_see 12 (.bool false) (see_bool kr hc3) (sd_run 12 ?_)
    rcases Bool.eq_false_or_eq_true (decide ((op : Int) ≥ 32)) with hc10 | hc10
    ·skip
     refine sd_see 24 (.bool true) (see_bool kr hc10) (sd_run 8 ?_)
     rcases Bool.eq_false_or_eq_true (decide ((op : Int) ≤ 40)) with hc11 | hc11
     ·skip
      refine sd_see 2 (.bool true) (see_bool kr hc11) ?_
      simp only [bd] at hc1 hc2 hc3 hc10 hc11
      refine sdY (.bool true) hX [] [] True.intro ⟨(by congr 1; unfold plainB; rw [Bool.eq_iff_iff]; simp; omega), rfl⟩
     ·skip
      refine sd_see 2 (.bool false) (see_bool kr hc11) ?_
      simp only [bd] at hc1 hc2 hc3 hc10 hc11
      refine sdY (.bool false) hX [] [] True.intro ⟨(by congr 1; unfold plainB; rw [Bool.eq_iff_iff]; simp; omega), rfl⟩
    ·skip
     refine sd_see 24 (.bool false) (see_bool kr hc10) (sd_run 8 ?_)
     simp only [bd] at hc1 hc2 hc3 hc10
     refine sdY (.bool false) hX [] [] True.intro ⟨(by congr 1; unfold plainB; rw [Bool.eq_iff_iff]; simp; omega), rfl⟩
 ·skip
  refine sd_see 5 (.bool false) (see_bool kr hc1) (sd_run 7 ?_)
  rcases Bool.eq_false_or_eq_true (decide ((op : Int) ≥ 16)) with hc12 | hc12
  ·skip
   refine sd_see 12 (.bool true) (see_bool kr hc12) (sd_run 4 ?_)
   rcases Bool.eq_false_or_eq_true (decide ((op : Int) ≤ 25)) with hc13 | hc13
   ·skip
    refine sd_see 16 (.bool true) (see_bool kr hc13) (sd_run 5 ?_)
    rcases Bool.eq_false_or_eq_true ((op : Int) != 24) with hc14 | hc14
    ·skip
     refine sd_see 21 (.bool true) (see_bool kr hc14) (sd_run 11 ?_)
     simp only [bd] at hc1 hc12 hc13 hc14
     refine sdY (.bool true) hX [] [] True.intro ⟨(by congr 1; unfold plainB; rw [Bool.eq_iff_iff]; simp; omega), rfl⟩
    ·skip
     refine sd_see 21 (.bool false) (see_bool kr hc14) (sd_run 3 ?_)
     rcases Bool.eq_false_or_eq_true (decide ((op : Int) ≥ 32)) with hc15 | hc15
     ·skip
      refine sd_see 24 (.bool true) (see_bool kr hc15) (sd_run 8 ?_)
      rcases Bool.eq_false_or_eq_true (decide ((op : Int) ≤ 40)) with hc16 | hc16
      ·skip
       refine sd_see 2 (.bool true) (see_bool kr hc16) ?_
       simp only [bd] at hc1 hc12 hc13 hc14 hc15 hc16
       refine sdY (.bool true) hX [] [] True.intro ⟨(by congr 1; unfold plainB; rw [Bool.eq_iff_iff]; simp; omega), rfl⟩
      ·skip
       refine sd_see 2 (.bool false) (see_bool kr hc16) ?_
       simp only [bd] at hc1 hc12 hc13 hc14 hc15 hc16
       refine sdY (.bool false) hX [] [] True.intro ⟨(by congr 1; unfold plainB; rw [Bool.eq_iff_iff]; simp; omega), rfl⟩
     ·skip
      refine sd_see 24 (.bool false) (see_bool kr hc15) (sd_run 8 ?_)
      simp only [bd] at hc1 hc12 hc13 hc14 hc15
      refine sdY (.bool false) hX [] [] True.intro ⟨(by congr 1; unfold plainB; rw [Bool.eq_iff_iff]; simp; omega), rfl⟩
   ·skip
    refine sd_see 16 (.bool false) (see_bool kr hc13) (sd_run 8 ?_)
    rcases Bool.eq_false_or_eq_true (decide ((op : Int) ≥ 32)) with hc17 | hc17
    ·skip
     refine sd_see 24 (.bool true) (see_bool kr hc17) (sd_run 8 ?_)
     rcases Bool.eq_false_or_eq_true (decide ((op : Int) ≤ 40)) with hc18 | hc18
     ·skip
      refine sd_see 2 (.bool true) (see_bool kr hc18) ?_
      simp only [bd] at hc1 hc12 hc13 hc17 hc18
      refine sdY (.bool true) hX [] [] True.intro ⟨(by congr 1; unfold plainB; rw [Bool.eq_iff_iff]; simp; omega), rfl⟩
     ·skip
      refine sd_see 2 (.bool false) (see_bool kr hc18) ?_
      simp only [bd] at hc1 hc12 hc13 hc17 hc18
      refine sdY (.bool false) hX [] [] True.intro ⟨(by congr 1; unfold plainB; rw [Bool.eq_iff_iff]; simp; omega), rfl⟩
    ·skip
     refine sd_see 24 (.bool false) (see_bool kr hc17) (sd_run 8 ?_)
     simp only [bd] at hc1 hc12 hc13 hc17
     refine sdY (.bool false) hX [] [] True.intro ⟨(by congr 1; unfold plainB; rw [Bool.eq_iff_iff]; simp; omega), rfl⟩
  ·skip
   refine sd_see 12 (.bool false) (see_bool kr hc12) (sd_run 12 ?_)
   rcases Bool.eq_false_or_eq_true (decide ((op : Int) ≥ 32)) with hc19 | hc19
   ·skip
    refine sd_see 24 (.bool true) (see_bool kr hc19) (sd_run 8 ?_)
    rcases Bool.eq_false_or_eq_true (decide ((op : Int) ≤ 40)) with hc20 | hc20
    ·skip
     refine sd_see 2 (.bool true) (see_bool kr hc20) ?_
     simp only [bd] at hc1 hc12 hc19 hc20
     refine sdY (.bool true) hX [] [] True.intro ⟨(by congr 1; unfold plainB; rw [Bool.eq_iff_iff]; simp; omega), rfl⟩
    ·skip
     refine sd_see 2 (.bool false) (see_bool kr hc20) ?_
     simp only [bd] at hc1 hc12 hc19 hc20
     refine sdY (.bool false) hX [] [] True.intro ⟨(by congr 1; unfold plainB; rw [Bool.eq_iff_iff]; simp; omega), rfl⟩
   ·skip
    refine sd_see 24 (.bool false) (see_bool kr hc19) (sd_run 8 ?_)
    simp only [bd] at hc1 hc12 hc19
    refine sdY (.bool false) hX [] [] True.intro ⟨(by congr 1; unfold plainB; rw [Bool.eq_iff_iff]; simp; omega), rfl⟩
def sp58 : List Value → Option Value
 | [.int .i64 op] => some (.bool (plainB op))
 | _ => none
noncomputable def T14 : Tab := { T13 with orc := addOrc T13.orc 58 sp58 }
theorem ok_T14 [Bs] : ProgOk Try.prog T14 := ok_T13.know 58 sp58 fun args v h => by
 unfold sp58 at h
 split at h
 ·rename_i op; cases h; exact ⟨rfl, rfl, SCall.data (plainB2_s op) rfl rfl⟩
 ·cases h
instance : OrcDat T14 := orcDat_add inferInstance 58 sp58 fun l v h => by
 unfold sp58 at h
 split at h
 ·cases h; exact ⟨rfl, rfl⟩
 ·cases h
noncomputable def f59b : Code := Try.f59.body.getD .skip
theorem f59_body : Try.f59.body = some f59b := by kernel_rfl
theorem f59_fn : T14.fn 59 = some Try.f59 := by kernel_rfl
theorem endsB2_s (op : Int)  : SCall Try.prog T14 59 #[.int .i64 op] (hq []) fun v h => v = .bool (endsB op) ∧ h = hq [] := by
 refine scall_sd 17 _ 0 kr f59_fn f59_body rfl rfl rfl fun X hX => ?_
 refine sd_run 10 ?_
 rcases Bool.eq_false_or_eq_true (decide ((op : Int) ≥ 32)) with hc1 | hc1
 ·skip
  refine sd_see 5 (.bool true) (see_bool kr hc1) (sd_run 4 ?_)
  rcases Bool.eq_false_or_eq_true (decide ((op : Int) ≤ 40)) with hc2 | hc2
  ·skip
   refine sd_see 9 (.bool true) (see_bool kr hc2) (sd_run 11 ?_)
   simp only [bd] at hc1 hc2
   refine sdY (.bool true) hX [] [] True.intro ⟨(by congr 1; unfold endsB; rw [Bool.eq_iff_iff]; simp; omega), rfl⟩
  ·skip
   refine sd_see 9 (.bool false) (see_bool kr hc2) (sd_run 3 ?_)
   rcases Bool.eq_false_or_eq_true (decide ((op : Int) ≥ 64)) with hc3 | hc3
   ·skip
    refine sd_see 12 (.bool true) (see_bool kr hc3) (sd_run 8 ?_)
    rcases Bool.eq_false_or_eq_true (decide ((op : Int) ≤ 69)) with hc4 | hc4
    ·skip
     refine sd_see 2 (.bool true) (see_bool kr hc4) ?_
     simp only [bd] at hc1 hc2 hc3 hc4
     refine sdY (.bool true) hX [] [] True.intro ⟨(by congr 1; unfold endsB; rw [Bool.eq_iff_iff]; simp; omega), rfl⟩
    ·skip
     refine sd_see 2 (.bool false) (see_bool kr hc4) ?_
     simp only [bd] at hc1 hc2 hc3 hc4
     refine sdY (.bool false) hX [] [] True.intro ⟨(by congr 1; unfold endsB; rw [Bool.eq_iff_iff]; simp; omega), rfl⟩
   ·skip
    refine sd_see 12 (.bool false) (see_bool kr hc3) (sd_run 8 ?_)
    simp only [bd] at hc1 hc2 hc3
    refine sdY (.bool false) hX [] [] True.intro ⟨(by congr 1; unfold endsB; rw [Bool.eq_iff_iff]; simp; omega), rfl⟩
 ·skip
  refine sd_see 5 (.bool false) (see_bool kr hc1) (sd_run 7 ?_)
  rcases Bool.eq_false_or_eq_true (decide ((op : Int) ≥ 64)) with hc5 | hc5
  ·skip
   refine sd_see 12 (.bool true) (see_bool kr hc5) (sd_run 8 ?_)
   rcases Bool.eq_false_or_eq_true (decide ((op : Int) ≤ 69)) with hc6 | hc6
   ·skip
    refine sd_see 2 (.bool true) (see_bool kr hc6) ?_
    simp only [bd] at hc1 hc5 hc6
    refine sdY (.bool true) hX [] [] True.intro ⟨(by congr 1; unfold endsB; rw [Bool.eq_iff_iff]; simp; omega), rfl⟩
   ·skip
    refine sd_see 2 (.bool false) (see_bool kr hc6) ?_
    simp only [bd] at hc1 hc5 hc6
    refine sdY (.bool false) hX [] [] True.intro ⟨(by congr 1; unfold endsB; rw [Bool.eq_iff_iff]; simp; omega), rfl⟩
  ·skip
   refine sd_see 12 (.bool false) (see_bool kr hc5) (sd_run 8 ?_)
   simp only [bd] at hc1 hc5
   refine sdY (.bool false) hX [] [] True.intro ⟨(by congr 1; unfold endsB; rw [Bool.eq_iff_iff]; simp; omega), rfl⟩
def sp59 : List Value → Option Value
 | [.int .i64 op] => some (.bool (endsB op))
 | _ => none
noncomputable def T15 : Tab := { T14 with orc := addOrc T14.orc 59 sp59 }
theorem ok_T15 [Bs] : ProgOk Try.prog T15 := ok_T14.know 59 sp59 fun args v h => by
 unfold sp59 at h
 split at h
 ·rename_i op; cases h; exact ⟨rfl, rfl, SCall.data (endsB2_s op) rfl rfl⟩
 ·cases h
instance : OrcDat T15 := orcDat_add inferInstance 59 sp59 fun l v h => by
 unfold sp59 at h
 split at h
 ·cases h; exact ⟨rfl, rfl⟩
 ·cases h
theorem known_run : answers (.bool true) (evCall Try.prog T15 200000 9 #[] ⟨.lf, 0⟩) = true := by kernel_rfl
def sp9 : List Value → Option Value
 | [] => some (.bool true)
 | _ => none
noncomputable def T16 : Tab := { T15 with orc := addOrc T15.orc 9 sp9 }
theorem ok_T16 [Bs] : ProgOk Try.prog T16 := ok_T15.know 9 sp9 fun args v h => by
 unfold sp9 at h
 split at h
 ·cases h; exact ⟨rfl, rfl, acall_answers known_run⟩
 ·cases h
instance : OrcDat T16 := orcDat_add inferInstance 9 sp9 fun l v h => by
 unfold sp9 at h
 split at h
 ·cases h; exact ⟨rfl, rfl⟩
 ·cases h
end Ls
end Go.Proofs.Ytegjicaoemhhlaa
