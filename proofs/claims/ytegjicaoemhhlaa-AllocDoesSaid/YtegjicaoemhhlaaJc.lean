/- Chapter 21: values; what gcode tells of a number. -/
import Derived.Test.YtegjicaoemhhlaaJb
set_option linter.unusedVariables false
set_option linter.unusedSimpArgs false
namespace Go.Proofs.Ytegjicaoemhhlaa
open Go Go.Ev Go.RowKit
set_option maxRecDepth 100000
namespace Ls
def iiC (x : Int × Int × Int × Int × Int) : List Value := [.int .i64 x.1, .int .i64 x.2.1, .int .i64 x.2.2.1, .int .i64 x.2.2.2.1, .int .u32 x.2.2.2.2]
theorem iiC_len : ∀ x, (iiC x).length = 5 := fun _ => rfl
theorem iiC_pl : ∀ x, (iiC x).all plain = true := fun _ => rfl
def inC (x : Int) : List Value := [.int .i64 x]
theorem inC_len : ∀ x, (inC x).length = 1 := fun _ => rfl
theorem inC_pl : ∀ x, (inC x).all plain = true := fun _ => rfl
def boC (x : Bool) : List Value := [.bool x]
theorem boC_len : ∀ x, (boC x).length = 1 := fun _ => rfl
theorem boC_pl : ∀ x, (boC x).all plain = true := fun _ => rfl
def uC (x : Int) : List Value := [.int .u32 x]
theorem uC_len : ∀ x, (uC x).length = 1 := fun _ => rfl
theorem uC_pl : ∀ x, (uC x).all plain = true := fun _ => rfl
def ivC (x : Int × Int × Int) : List Value := [.int .i64 x.1, .int .i64 x.2.1, .int .i64 x.2.2]
theorem ivC_len : ∀ x, (ivC x).length = 3 := fun _ => rfl
theorem ivC_pl : ∀ x, (ivC x).all plain = true := fun _ => rfl
def mmC (x : Int × Int) : List Value := [.int .i64 x.1, .int .u32 x.2]
theorem mmC_pl : ∀ x, (mmC x).all plain = true := fun _ => rfl
structure Sx where
 pc : Int
 fl : Int
 root : Int
 vec : Int
 epc : Int
 cause : Int
 addr : Int
 cnt : Int
 su : Bool
 pg : Bool
 ie : Bool
 es : Bool
 ei : Bool
 ha : Bool
abbrev s1 (b n : Nat) : Value := .slice (some ⟨b, 0, none⟩) n (unk + 1)
abbrev s2 (b n : Nat) : Value := .slice (some ⟨b, 0, none⟩) n (unk + 2)
abbrev s5 (b n : Nat) : Value := .slice (some ⟨b, 0, none⟩) n (unk + 5)
abbrev slw (pc : Int) (d r : Value) (fl : Int) (su pg ie : Bool) (root vec epc cause addr : Int) (es ei : Bool) (cnt : Int) (ha : Bool) : List Value := [.int .u32 pc, d, r, .int .u32 fl, .bool su, .bool pg, .bool ie, .int .u32 root, .int .u32 vec, .int .u32 epc, .int .u32 cause, .int .u32 addr, .bool es, .bool ei, .int .u64 cnt, .bool ha]
abbrev stq (q : Sx) (pc : Int) (d r : Value) (fl cnt : Int) : Value := .agg #[.int .u32 pc, d, r, .int .u32 fl, .bool q.su, .bool q.pg, .bool q.ie, .int .u32 q.root, .int .u32 q.vec, .int .u32 q.epc, .int .u32 q.cause, .int .u32 q.addr, .bool q.es, .bool q.ei, .int .u64 cnt, .bool q.ha]
abbrev slq (q : Sx) (pc : Int) (d r : Value) (fl cnt : Int) : List Value := [.int .u32 pc, d, r, .int .u32 fl, .bool q.su, .bool q.pg, .bool q.ie, .int .u32 q.root, .int .u32 q.vec, .int .u32 q.epc, .int .u32 q.cause, .int .u32 q.addr, .bool q.es, .bool q.ei, .int .u64 cnt, .bool q.ha]
abbrev pgV (c : Value) (nd nr hd hr : Int) (od rd : Value) (fl nx tg br tk ct vs : Int) : Value := .agg #[c, .int .i64 nd, .int .i64 nr, .int .i64 hd, .int .i64 hr, od, rd, .int .i64 fl, .int .u32 nx, .int .i64 tg, .int .i64 br, .int .u32 tk, .int .i64 ct, .int .i64 vs]
abbrev lwL (c d r : Value) (fl tg br ct nd hd nr hr : Int) : List Value := [c, .int .i64 0, .int .i64 0, .int .i64 0, .int .i64 0, .slice none 0 0, .slice none 0 0, .int .i64 fl, .int .u32 0, .int .i64 tg, .int .i64 br, .int .u32 0, .int .i64 ct, .int .i64 0, d, .int .i64 nd, .int .i64 hd, .int .i64 1, r, .int .i64 nr, .int .i64 hr, .int .i64 2]
theorem brn {f : Em} {h : Heap} {c : Nat} {o : Ob} (h1 : h.get c = obRn f o := by kernel_rfl) (h2 : (obRn f o).isSome = true := by kernel_rfl) : Bk f h c o := bk_ren h1 h2
theorem cvo {l : List (Option Nat)} {k k1 h : Heap} {c : Nat} {o : Ob} (h1 : (c.blt h.n && l.all (fun x => match x with | some d => !d.beq c | none => true)) = true := by kernel_rfl) (h2 : h.get c = some o := by kernel_rfl) : CovAt (emOf l) k k1 h c o := cov_old h1 h2
theorem cvr {f : Em} {k k1 h : Heap} {c : Nat} {o : Ob} (b : Nat) (h0 : (b.blt k1.n && isNm (f.ext k.n h.n) b c) = true := by kernel_rfl) (h1 : (match k1.get b with | some o1 => obRn (f.ext k.n h.n) o1 | none => none) = some o := by kernel_rfl) : CovAt f k k1 h c o := cov_ren b h0 h1
theorem bd : (∀ (p : Prop) [Decidable p], (decide p = true) = p) ∧ (∀ (p : Prop) [Decidable p], (decide p = false) = ¬ p) ∧ (∀ a b : Int, ((a == b) = true) = (a = b)) ∧ (∀ a b : Int, ((a == b) = false) = ¬ a = b) ∧ (∀ a b : Int, ((a != b) = true) = ¬ a = b) ∧ (∀ a b : Int, ((a != b) = false) = (a = b)) ∧ (∀ a b : Int, (a > b) = (b < a)) ∧ (∀ a b : Int, (a ≥ b) = (b ≤ a)) ∧ (∀ a b : Int, (¬ a ≤ b) = (b < a)) ∧ (∀ a b : Int, (¬ a < b) = (b ≤ a)) ∧ (∀ b : Bool, (¬ b = true) = (b = false)) ∧ (∀ b : Bool, (¬ b = false) = (b = true)) ∧ (∀ b : Bool, ((!b) = true) = (b = false)) ∧ (∀ b : Bool, ((!b) = false) = (b = true)) := by
 refine ⟨fun p _ => by simp, fun p _ => by simp, fun a b => by simp, fun a b => by simp, fun a b => by simp, fun a b => by simp, fun a b => rfl, fun a b => rfl, fun a b => by simp, fun a b => by simp, fun b => by simp, fun b => by simp, fun b => by simp, fun b => by simp⟩
section
variable {P : Program} {T : Tab} {X : Cx} {Q : Xt → St → Prop} {c : Cf}
theorem sdZ {rs : Array ResultVar} {R : Value → Heap → Prop} (v : Value) {n0 : Nat} (h0 : X.h0.n = n0) (w : Value) (obs : List (Option Ob)) (l : List (Option Nat)) (hb : Blks (emOf l) c.s.H obs l) (hr : R w (hq obs)) (he : atEnd c = true := by kernel_rfl) (hp : rs.toList.all (presR c.s.tm) = true := by kernel_rfl) (hv : aresults T c.s.tm c.s.H rs = some v := by kernel_rfl) (hl : subG n0 c.s.H obs 0 obs l [] = true := by kernel_rfl) (hle : n0.ble l.length = true := by kernel_rfl) (hw : rn2 (emOf l) w = some v := by kernel_rfl) : SD P T X (QF T X rs R) c := sd_end v h0 he hp hv w (hq obs) (emOf l) (sub_of hl hle hb) (rn2_sound _ _ hw) hr
theorem sdY {rs : Array ResultVar} {R : Value → Heap → Prop} (v : Value) {n0 : Nat} (h0 : X.h0.n = n0) (obs : List (Option Ob)) (l : List (Option Nat)) (hb : Blks (emOf l) c.s.H obs l) (hr : R v (hq obs)) (he : atEnd c = true := by kernel_rfl) (hp : rs.toList.all (presR c.s.tm) = true := by kernel_rfl) (hv : aresults T c.s.tm c.s.H rs = some v := by kernel_rfl) (hl : subG n0 c.s.H obs 0 obs l [] = true := by kernel_rfl) (hle : n0.ble l.length = true := by kernel_rfl) (hw : rn2 (emOf l) v = some v := by kernel_rfl) : SD P T X (QF T X rs R) c := sdZ v h0 v obs l hb hr he hp hv hl hle hw
theorem sdC (t : Nat) (f : FuncId) (args : Array Value) {R : Value → Heap → Prop} {args0 : Array Value} {obs : List (Option Ob)} (hc : SCall P T f args0 (hq obs) R) (l : List (Option Nat)) (hb : Blks (emOf l) c.s.H obs l) (hk : HN (emOf l) (hq obs) c.s.H → ∀ v k1, R v k1 → ∃ w h1, Glue (emOf l) (hq obs) k1 c.s.H h1 ∧ RN ((emOf l).ext (hq obs).n c.s.H.n) v w ∧ SD P T X Q (c.put t w h1)) (ho : okOp c t = true := by kernel_rfl) (hs : strictC c = true := by kernel_rfl) (ha : aop P T c.s.tm (opC c) c.s.H = some (.enter f args, c.s.H) := by kernel_rfl) (hl : subGo 0 c.s.H.n 0 l [] = true := by kernel_rfl) (hr : rnG (rn2 (emOf l)) args0.toList = some args.toList := by kernel_rfl) : SD P T X Q c := sd_call t f args hc (emOf l) ho hs ha (hn_of 0 hl hb) (rnG_sound rn2_sound _ _ hr) (hk (hn_of 0 hl hb))
theorem sdD (t : Nat) (f : FuncId) (args : Array Value) {R : Value → Heap → Prop} {args0 : Array Value} {obs : List (Option Ob)} (hc : SCall P T f args0 (hq obs) R) (l : List (Option Nat)) (hb : Blks (emOf l) c.s.H obs l) (hk : ∀ v k1, R v k1 → ∃ w h1, Glue (emOf l) (hq obs) k1 c.s.H h1 ∧ RN ((emOf l).ext (hq obs).n c.s.H.n) v w ∧ SD P T X Q (c.put t w h1)) (ho : okOp c t = true := by kernel_rfl) (hs : strictC c = true := by kernel_rfl) (ha : aop P T c.s.tm (opC c) c.s.H = some (.enter f args, c.s.H) := by kernel_rfl) (hl : subGo 0 c.s.H.n 0 l [] = true := by kernel_rfl) (hr : rnG (rn2 (emOf l)) args0.toList = some args.toList := by kernel_rfl) : SD P T X Q c := sdC t f args hc l hb (fun _ => hk) ho hs ha hl hr
theorem mkG {g : Em} {k k1 : Heap} {t : Nat} {v : Value} (w : Value) (l : List (Option Ob)) (hc : Covs g k k1 c.s.H 0 l) (hs : SD P T X Q (c.put t w (hq l))) (hn : l.length.beq (c.s.H.n + (k1.n - k.n)) = true := by kernel_rfl) (hl : k.n.ble k1.n = true := by kernel_rfl) (hr : rn2 (g.ext k.n c.s.H.n) v = some w := by kernel_rfl) : ∃ w h1, Glue g k k1 c.s.H h1 ∧ RN (g.ext k.n c.s.H.n) v w ∧ SD P T X Q (c.put t w h1) := ⟨w, hq l, glue_of hn hl hc, rn2_sound _ _ hr, hs⟩
theorem sdCp (t : Nat) (f : FuncId) (args : Array Value) {R : Value → Heap → Prop} {args0 : Array Value} {obs : List (Option Ob)} (hc : SCall P T f args0 (hq obs) R) (l : List (Option Nat)) (hb : Blks (emOf l) c.s.H obs l) (hk : ∀ v k1, R v k1 → k1 = hq obs ∧ ∃ w, rn2 ((emOf l).ext obs.length c.s.H.n) v = some w ∧ SD P T X Q (c.put t w c.s.H)) (ho : okOp c t = true := by kernel_rfl) (hs : strictC c = true := by kernel_rfl) (ha : aop P T c.s.tm (opC c) c.s.H = some (.enter f args, c.s.H) := by kernel_rfl) (hl : subGo 0 c.s.H.n 0 l [] = true := by kernel_rfl) (hr : rnG (rn2 (emOf l)) args0.toList = some args.toList := by kernel_rfl) : SD P T X Q c := sd_callp t f args hc l ho hs ha (hn_of 0 hl hb) hr hk
end
theorem cvs {f : Em} {k k1 h : Heap} {c : Nat} {o : Ob} (b : Nat) (hf : HN f k h) (hle : k.n.ble k1.n = true := by kernel_rfl) (h0 : isNm f b c = true := by kernel_rfl) (h1 : k1.get b = k.get b := by kernel_rfl) (hs : (k.get b).isSome = true := by kernel_rfl) (h2 : h.get c = some o := by kernel_rfl) : CovAt f k k1 h c o := cov_same b hf hle h0 h1 hs h2
abbrev i1_ : List (Option Nat) := [some 0]
abbrev e1_ : Em := emOf i1_
abbrev i2_ : List (Option Nat) := [some 0, some 1]
abbrev e2_ : Em := emOf i2_
abbrev i3_ : List (Option Nat) := [some 0, some 1, some 2]
abbrev e3_ : Em := emOf i3_
abbrev i4_ : List (Option Nat) := [some 0, some 1, some 2, some 3]
abbrev e4_ : Em := emOf i4_
abbrev i5_ : List (Option Nat) := [some 0, some 1, some 2, some 3, some 4]
abbrev e5_ : Em := emOf i5_
abbrev i6_ : List (Option Nat) := [some 0, some 1, some 2, some 3, some 4, some 5]
abbrev e6_ : Em := emOf i6_
abbrev i7_ : List (Option Nat) := [some 0, some 1, some 2, some 3, some 4, some 5, some 6]
abbrev e7_ : Em := emOf i7_
abbrev i8_ : List (Option Nat) := [some 0, some 1, some 2, some 3, some 4, some 5, some 6, some 7]
abbrev e8_ : Em := emOf i8_
abbrev i9_ : List (Option Nat) := [some 0, some 1, some 2, some 3, some 4, some 5, some 6, some 7, some 8]
abbrev e9_ : Em := emOf i9_
abbrev i10_ : List (Option Nat) := [some 0, some 1, some 2, some 3, some 4, some 5, some 6, some 7, some 8, some 9]
abbrev e10_ : Em := emOf i10_
abbrev i12_ : List (Option Nat) := [some 0, some 1, some 2, some 3, some 4, some 5, some 6, some 7, some 8, some 9, some 10, some 11]
abbrev e12_ : Em := emOf i12_
abbrev iiCo (l : List (Int × Int × Int × Int × Int)) (ro : Bool) : Option Ob := some ⟨tab iiC l, 61, ro⟩
theorem iiC_b {f : Em} {h : Heap} {c e : Nat} {l : List (Int × Int × Int × Int × Int)} {ro : Bool} (h1 : h.get c = some ⟨tab iiC l, e, ro⟩ := by kernel_rfl) : Bk f h c ⟨tab iiC l, e, ro⟩ := bk_flat _ h1 (tab_plain iiC_pl _) rfl
theorem iiC_c {f : Em} {k k1 h : Heap} {c e : Nat} {l : List (Int × Int × Int × Int × Int)} {ro : Bool} (b : Nat) (h0 : (b.blt k1.n && isNm (f.ext k.n h.n) b c) = true := by kernel_rfl) (h1 : k1.get b = some ⟨tab iiC l, e, ro⟩ := by kernel_rfl) : CovAt f k k1 h c ⟨tab iiC l, e, ro⟩ := cov_flat b h0 h1 (tab_plain iiC_pl _)
abbrev inCo (l : List (Int)) (ro : Bool) : Option Ob := some ⟨tab inC l, 3, ro⟩
theorem inC_b {f : Em} {h : Heap} {c e : Nat} {l : List (Int)} {ro : Bool} (h1 : h.get c = some ⟨tab inC l, e, ro⟩ := by kernel_rfl) : Bk f h c ⟨tab inC l, e, ro⟩ := bk_flat _ h1 (tab_plain inC_pl _) rfl
theorem inC_c {f : Em} {k k1 h : Heap} {c e : Nat} {l : List (Int)} {ro : Bool} (b : Nat) (h0 : (b.blt k1.n && isNm (f.ext k.n h.n) b c) = true := by kernel_rfl) (h1 : k1.get b = some ⟨tab inC l, e, ro⟩ := by kernel_rfl) : CovAt f k k1 h c ⟨tab inC l, e, ro⟩ := cov_flat b h0 h1 (tab_plain inC_pl _)
abbrev boCo (l : List (Bool)) (ro : Bool) : Option Ob := some ⟨tab boC l, 4, ro⟩
theorem boC_b {f : Em} {h : Heap} {c e : Nat} {l : List (Bool)} {ro : Bool} (h1 : h.get c = some ⟨tab boC l, e, ro⟩ := by kernel_rfl) : Bk f h c ⟨tab boC l, e, ro⟩ := bk_flat _ h1 (tab_plain boC_pl _) rfl
theorem boC_c {f : Em} {k k1 h : Heap} {c e : Nat} {l : List (Bool)} {ro : Bool} (b : Nat) (h0 : (b.blt k1.n && isNm (f.ext k.n h.n) b c) = true := by kernel_rfl) (h1 : k1.get b = some ⟨tab boC l, e, ro⟩ := by kernel_rfl) : CovAt f k k1 h c ⟨tab boC l, e, ro⟩ := cov_flat b h0 h1 (tab_plain boC_pl _)
abbrev uCo (l : List (Int)) (ro : Bool) : Option Ob := some ⟨tab uC l, 27, ro⟩
theorem uC_b {f : Em} {h : Heap} {c e : Nat} {l : List (Int)} {ro : Bool} (h1 : h.get c = some ⟨tab uC l, e, ro⟩ := by kernel_rfl) : Bk f h c ⟨tab uC l, e, ro⟩ := bk_flat _ h1 (tab_plain uC_pl _) rfl
theorem uC_c {f : Em} {k k1 h : Heap} {c e : Nat} {l : List (Int)} {ro : Bool} (b : Nat) (h0 : (b.blt k1.n && isNm (f.ext k.n h.n) b c) = true := by kernel_rfl) (h1 : k1.get b = some ⟨tab uC l, e, ro⟩ := by kernel_rfl) : CovAt f k k1 h c ⟨tab uC l, e, ro⟩ := cov_flat b h0 h1 (tab_plain uC_pl _)
abbrev ivCo (l : List (Int × Int × Int)) (ro : Bool) : Option Ob := some ⟨tab ivC l, 69, ro⟩
theorem ivC_b {f : Em} {h : Heap} {c e : Nat} {l : List (Int × Int × Int)} {ro : Bool} (h1 : h.get c = some ⟨tab ivC l, e, ro⟩ := by kernel_rfl) : Bk f h c ⟨tab ivC l, e, ro⟩ := bk_flat _ h1 (tab_plain ivC_pl _) rfl
theorem ivC_c {f : Em} {k k1 h : Heap} {c e : Nat} {l : List (Int × Int × Int)} {ro : Bool} (b : Nat) (h0 : (b.blt k1.n && isNm (f.ext k.n h.n) b c) = true := by kernel_rfl) (h1 : k1.get b = some ⟨tab ivC l, e, ro⟩ := by kernel_rfl) : CovAt f k k1 h c ⟨tab ivC l, e, ro⟩ := cov_flat b h0 h1 (tab_plain ivC_pl _)
abbrev mmCo (l : List (Int × Int)) (ro : Bool) : Option Ob := some ⟨tab mmC l, 75, ro⟩
theorem mmC_b {f : Em} {h : Heap} {c e : Nat} {l : List (Int × Int)} {ro : Bool} (h1 : h.get c = some ⟨tab mmC l, e, ro⟩ := by kernel_rfl) : Bk f h c ⟨tab mmC l, e, ro⟩ := bk_flat _ h1 (tab_plain mmC_pl _) rfl
abbrev jI (n : Int) : Value := .int .i64 n
abbrev jU (n : Int) : Value := .int .u32 n
abbrev pT (b o : Nat) : Value := .pointer (some ⟨b, o, none⟩)
abbrev sK (b n k : Nat) : Value := .slice (some ⟨b, 0, none⟩) n k
section
variable {P : Program} {T : Tab} {X : Cx} {Q : Xt → St → Prop} {c : Cf} [OrcDat T]
theorem zT (k t : Nat) (p : Prop) [Decidable p] (hk : SD P T X Q ((goS P T k c).see t (.bool true))) (h : p := by first | omega | (simp; done) | (simp; omega)) (hr : (goS P T k c).s.tm.get t = some (.bool (decide p)) := by kernel_rfl) : SD P T X Q c := sd_run k (sd_see t _ (see_bool hr (decide_eq_true h)) hk)
theorem zF (k t : Nat) (p : Prop) [Decidable p] (hk : SD P T X Q ((goS P T k c).see t (.bool false))) (h : ¬ p := by first | omega | (simp; done) | (simp; omega)) (hr : (goS P T k c).s.tm.get t = some (.bool (decide p)) := by kernel_rfl) : SD P T X Q c := sd_run k (sd_see t _ (see_bool hr (decide_eq_false h)) hk)
theorem zE (k t : Nat) (x y : Int) (hk : SD P T X Q ((goS P T k c).see t (.bool true))) (h : x = y := by first | omega | (simp; done) | (simp; omega)) (hr : (goS P T k c).s.tm.get t = some (.bool (x == y)) := by kernel_rfl) : SD P T X Q c := sd_run k (sd_see t _ (see_bool hr (beq_iff_eq.2 h)) hk)
theorem zN (k t : Nat) (x y : Int) (hk : SD P T X Q ((goS P T k c).see t (.bool false))) (h : x ≠ y := by first | omega | (simp; done) | (simp; omega)) (hr : (goS P T k c).s.tm.get t = some (.bool (x == y)) := by kernel_rfl) : SD P T X Q c := sd_run k (sd_see t _ (see_bool hr (beq_eq_false_iff_ne.2 h)) hk)
theorem zP (k t : Nat) (x y : Int) (hk : SD P T X Q ((goS P T k c).see t (.bool true))) (h : x ≠ y := by first | omega | (simp; done) | (simp; omega)) (hr : (goS P T k c).s.tm.get t = some (.bool (x != y)) := by kernel_rfl) : SD P T X Q c := sd_run k (sd_see t _ (see_bool hr (bne_iff_ne.2 h)) hk)
theorem zQ (k t : Nat) (x y : Int) (hk : SD P T X Q ((goS P T k c).see t (.bool false))) (h : x = y := by first | omega | (simp; done) | (simp; omega)) (hr : (goS P T k c).s.tm.get t = some (.bool (x != y)) := by kernel_rfl) : SD P T X Q c := sd_run k (sd_see t _ (see_bool hr (bne_eq_false_iff_eq.2 h)) hk)
theorem zI (k t : Nat) (kd : IntKind) (y x : Int) (hk : SD P T X Q ((goS P T k c).see t (.int kd y))) (h : x = y := by first | exact w64 (by omega) (by omega) (by omega) | exact i64w (by omega) (by omega) (by omega) | exact wu32 rfl (by omega) (by omega) | exact wu64 rfl (by omega) (by omega) | exact wu64 (by omega) (by omega) (by omega) | exact wu32 (by omega) (by omega) (by omega) | omega) (hr : (goS P T k c).s.tm.get t = some (.int kd x) := by kernel_rfl) : SD P T X Q c := sd_run k (sd_see t _ (see_int hr h) hk)
theorem zB (k t : Nat) (x : Bool) (h1 : x = true → SD P T X Q ((goS P T k c).see t (.bool true))) (h2 : x = false → SD P T X Q ((goS P T k c).see t (.bool false))) (hr : (goS P T k c).s.tm.get t = some (.bool x) := by kernel_rfl) : SD P T X Q c := sd_run k ((Bool.eq_false_or_eq_true x).elim (fun h => sd_see t _ (see_bool hr h) (h1 h)) (fun h => sd_see t _ (see_bool hr h) (h2 h)))
theorem zX (k t : Nat) (v : Value) (i len : Nat) (hk : SD P T X Q ((goS P T k c).put t v (goS P T k c).s.H)) (hi : i < len := by first | omega | (simp; done) | (simp; omega)) (ho : okOp (goS P T k c) t = true := by kernel_rfl) (hs : strictC (goS P T k c) = true := by kernel_rfl) (h1 : aop P T (goS P T k c).s.tm (opC (goS P T k c)) (goS P T k c).s.H = val (bif i.blt len then some v else none) (goS P T k c).s.H := by kernel_rfl) : SD P T X Q c := sd_run k (sd_ix t v i len ho hs h1 hi hk)
theorem zL {α : Type} {enc : α → List Value} {s : Nat} (k t : Nat) (v : Value) (ty : TypeId) (b j : Nat) (e : TypeId) (ro : Bool) (hs : ∀ a, (enc a).length = s) {l : List α} {i : Nat} {a : α} (ha : l[i]? = some a) (hk : SD P T X Q ((goS P T k c).put t v (goS P T k c).s.H)) (g : (goS P T k c).s.H.get b = some ⟨tab enc l, e, ro⟩ := by kernel_rfl) (hr : cellB T ty = true := by kernel_rfl) (hz : T.size ty = some 1 := by kernel_rfl) (hj : (enc a)[j]? = some v := by rfl) (ho : okOp (goS P T k c) t = true := by kernel_rfl) (h2 : strictC (goS P T k c) = true := by kernel_rfl) (h1 : ldOf (goS P T k c) = some (ty, .pointer (some ⟨b, 0 + i * s + j, none⟩)) := by kernel_rfl) : SD P T X Q c := sd_run k (sd_ld t v ty _ ho h2 h1 (ld_cell hs g hr hz ha hj) hk)
theorem zM {α : Type} {enc : α → List Value} {s : Nat} (k t : Nat) (ty : TypeId) (b : Nat) (e : TypeId) (ro : Bool) (hs : ∀ a, (enc a).length = s) {l : List α} {i : Nat} {a : α} (ha : l[i]? = some a) (hk : SD P T X Q ((goS P T k c).put t (.agg (enc a).toArray) (goS P T k c).s.H)) (g : (goS P T k c).s.H.get b = some ⟨tab enc l, e, ro⟩ := by kernel_rfl) (hr : rowB T ty = true := by kernel_rfl) (hz : T.size ty = some s := by kernel_rfl) (ho : okOp (goS P T k c) t = true := by kernel_rfl) (h2 : strictC (goS P T k c) = true := by kernel_rfl) (h1 : ldOf (goS P T k c) = some (ty, .pointer (some ⟨b, 0 + i * s, none⟩)) := by kernel_rfl) : SD P T X Q c := sd_run k (sd_ld t _ ty _ ho h2 h1 (ld_row hs g hr hz ha) hk)
end
theorem zR {α : Type} (l : List α) (k : Nat) (h : k < l.length := by first | omega | (simp; done) | (simp; omega)) : ∃ x, l[k]? = some x := ⟨_, List.getElem?_eq_getElem h⟩
section
variable {P : Program} {T : Tab} {X : Cx} {Q : Xt → St → Prop} {c : Cf}
theorem zC (t : Nat) (f : FuncId) (args : Array Value) {R : Value → Heap → Prop} {args0 : Array Value} {obs : List (Option Ob)} (hc : SCall P T f args0 (hq obs) R) (l : List (Option Nat)) (hk : HN (emOf l) (hq obs) c.s.H → ∀ v k1, R v k1 → ∃ w h1, Glue (emOf l) (hq obs) k1 c.s.H h1 ∧ RN ((emOf l).ext (hq obs).n c.s.H.n) v w ∧ SD P T X Q (c.put t w h1)) (hb : Blks (emOf l) c.s.H obs l := by repeat (first | exact True.intro | (refine ⟨by first | exact iiC_b | exact inC_b | exact uC_b | exact boC_b | exact ivC_b | exact mmC_b | exact jjC_b | exact rfl | exact brn, ?_⟩))) (ho : okOp c t = true := by kernel_rfl) (hs : strictC c = true := by kernel_rfl) (ha : aop P T c.s.tm (opC c) c.s.H = some (.enter f args, c.s.H) := by kernel_rfl) (hl : subGo 0 c.s.H.n 0 l [] = true := by kernel_rfl) (hr : rnG (rn2 (emOf l)) args0.toList = some args.toList := by kernel_rfl) : SD P T X Q c := sdC t f args hc l hb hk ho hs ha hl hr
theorem zD (t : Nat) (f : FuncId) (args : Array Value) {R : Value → Heap → Prop} {args0 : Array Value} {obs : List (Option Ob)} (hc : SCall P T f args0 (hq obs) R) (l : List (Option Nat)) (hk : ∀ v k1, R v k1 → ∃ w h1, Glue (emOf l) (hq obs) k1 c.s.H h1 ∧ RN ((emOf l).ext (hq obs).n c.s.H.n) v w ∧ SD P T X Q (c.put t w h1)) (hb : Blks (emOf l) c.s.H obs l := by repeat (first | exact True.intro | (refine ⟨by first | exact iiC_b | exact inC_b | exact uC_b | exact boC_b | exact ivC_b | exact mmC_b | exact jjC_b | exact rfl | exact brn, ?_⟩))) (ho : okOp c t = true := by kernel_rfl) (hs : strictC c = true := by kernel_rfl) (ha : aop P T c.s.tm (opC c) c.s.H = some (.enter f args, c.s.H) := by kernel_rfl) (hl : subGo 0 c.s.H.n 0 l [] = true := by kernel_rfl) (hr : rnG (rn2 (emOf l)) args0.toList = some args.toList := by kernel_rfl) : SD P T X Q c := sdD t f args hc l hb hk ho hs ha hl hr
theorem zG (t : Nat) (f : FuncId) (args : Array Value) {R : Value → Heap → Prop} {args0 : Array Value} {obs : List (Option Ob)} (hc : SCall P T f args0 (hq obs) R) (l : List (Option Nat)) (hk : ∀ v k1, R v k1 → k1 = hq obs ∧ ∃ w, rn2 ((emOf l).ext obs.length c.s.H.n) v = some w ∧ SD P T X Q (c.put t w c.s.H)) (hb : Blks (emOf l) c.s.H obs l := by repeat (first | exact True.intro | (refine ⟨by first | exact iiC_b | exact inC_b | exact uC_b | exact boC_b | exact ivC_b | exact mmC_b | exact jjC_b | exact rfl | exact brn, ?_⟩))) (ho : okOp c t = true := by kernel_rfl) (hs : strictC c = true := by kernel_rfl) (ha : aop P T c.s.tm (opC c) c.s.H = some (.enter f args, c.s.H) := by kernel_rfl) (hl : subGo 0 c.s.H.n 0 l [] = true := by kernel_rfl) (hr : rnG (rn2 (emOf l)) args0.toList = some args.toList := by kernel_rfl) : SD P T X Q c := sdCp t f args hc l hb hk ho hs ha hl hr
theorem zZ {rs : Array ResultVar} {R : Value → Heap → Prop} (v : Value) {n0 : Nat} (h0 : X.h0.n = n0) (w : Value) {obs : List (Option Ob)} (l : List (Option Nat)) (hr : R w (hq obs)) (hb : Blks (emOf l) c.s.H obs l := by repeat (first | exact True.intro | (refine ⟨by first | exact iiC_b | exact inC_b | exact uC_b | exact boC_b | exact ivC_b | exact mmC_b | exact jjC_b | exact rfl | exact brn, ?_⟩))) (he : atEnd c = true := by kernel_rfl) (hp : rs.toList.all (presR c.s.tm) = true := by kernel_rfl) (hv : aresults T c.s.tm c.s.H rs = some v := by kernel_rfl) (hl : subG n0 c.s.H obs 0 obs l [] = true := by kernel_rfl) (hle : n0.ble l.length = true := by kernel_rfl) (hw : rn2 (emOf l) w = some v := by kernel_rfl) : SD P T X (QF T X rs R) c := sdZ v h0 w obs l hb hr he hp hv hl hle hw
theorem zY {rs : Array ResultVar} {R : Value → Heap → Prop} (v : Value) {n0 : Nat} (h0 : X.h0.n = n0) {obs : List (Option Ob)} (l : List (Option Nat)) (hr : R v (hq obs)) (hb : Blks (emOf l) c.s.H obs l := by repeat (first | exact True.intro | (refine ⟨by first | exact iiC_b | exact inC_b | exact uC_b | exact boC_b | exact ivC_b | exact mmC_b | exact jjC_b | exact rfl | exact brn, ?_⟩))) (he : atEnd c = true := by kernel_rfl) (hp : rs.toList.all (presR c.s.tm) = true := by kernel_rfl) (hv : aresults T c.s.tm c.s.H rs = some v := by kernel_rfl) (hl : subG n0 c.s.H obs 0 obs l [] = true := by kernel_rfl) (hle : n0.ble l.length = true := by kernel_rfl) (hw : rn2 (emOf l) v = some v := by kernel_rfl) : SD P T X (QF T X rs R) c := sdZ v h0 v obs l hb hr he hp hv hl hle hw
end
theorem zs {l : List (Option Nat)} {obs : List (Option Ob)} {h : Heap} {n0 : Nat} (hl : subG n0 h obs 0 obs l [] = true := by kernel_rfl) (hle : n0.ble l.length = true := by kernel_rfl) (hb : Blks (emOf l) h obs l := by repeat (first | exact True.intro | (refine ⟨by first | exact iiC_b | exact inC_b | exact uC_b | exact boC_b | exact ivC_b | exact mmC_b | exact jjC_b | exact rfl | exact brn, ?_⟩))) : Sub n0 (emOf l) (hq obs) h := sub_of hl hle hb
theorem zt {f : Em} {L : List (Nat × Value)} {tm : Tr Value} (h1 : L.map (fun p => rn2 f p.2) = L.map (fun p => tm.get p.1) := by kernel_rfl) (h2 : L.all (fun p => (rn2 f p.2).isSome) = true := by kernel_rfl) : TE f (tmL L) tm := te_of h1 h2
abbrev nS : Value := .slice none 0 0
abbrev oB (t : Nat) (l : List Value) : Option Ob := some ⟨l, t, false⟩
abbrev jN (n : Nat) : Value := .int .i64 n
abbrev eM (l : List Nat) : List (Option Nat) := l.map fun | 0 => none | n + 1 => some n
theorem zS {P : Program} {T : Tab} [OrcDat T] {f : FuncId} {args : Array Value} {h : Heap} {R : Value → Heap → Prop} (fn : Func) (b : Code) (n n0 : Nat) (hd : ∀ X : Cx, X.h0.n = n0 → SD P T X (QF T X fn.results R) ⟨n, .code b, [], ⟨initTm 0 args, h⟩⟩) (ho : T.orc f args.toList = none := by kernel_rfl) (hf : T.fn f = some fn := by kernel_rfl) (hb : fn.body = some b := by kernel_rfl) (hn : args.size + (fn.ntmps - args.size) = n := by rfl) (hh : h.n = n0 := by rfl) : SCall P T f args h R := scall_sd n _ n0 ho hf hb hn rfl hh hd
abbrev iiF (l : List (Int × Int × Int × Int × Int)) : Option Ob := iiCo l false
abbrev inF (l : List (Int)) : Option Ob := inCo l false
abbrev uF (l : List (Int)) : Option Ob := uCo l false
abbrev boF (l : List (Bool)) : Option Ob := boCo l false
abbrev ivF (l : List (Int × Int × Int)) : Option Ob := ivCo l false
abbrev mmF (l : List (Int × Int)) : Option Ob := mmCo l false
theorem inC_ones : ∀ x, (inC x).all Ev.one = true := fun _ => rfl
abbrev II := Int × Int × Int × Int × Int
def valB (n k : Int) : Bool := decide (0 ≤ n) && decide (n < k)
def madeB (nd nr : Int) (x : II) (k : Int) : Bool :=
 decide (x.2.1 = k) && (if x.1 = 0 then decide (x.2.2.1 = 0) && decide (x.2.2.2.1 = 0)
  else if x.1 = 1 then (decide (x.2.2.1 = 0) && decide (x.2.2.2.1 = 0)) && decide (x.2.2.2.2 < nd)
  else if x.1 = 2 then (decide (x.2.2.1 = 0) && decide (x.2.2.2.1 = 0)) && decide (x.2.2.2.2 < nr)
  else if x.1 = 3 then (valB x.2.2.1 k && valB x.2.2.2.1 k) && (decide (16 ≤ x.2.2.2.2) && decide (x.2.2.2.2 ≤ 23))
  else if x.1 = 4 then (valB x.2.2.1 k && valB x.2.2.2.1 k) && ((decide (16 ≤ x.2.2.2.2) && decide (x.2.2.2.2 ≤ 23)) || decide (x.2.2.2.2 = 25))
  else false)
structure RightP (c : List II) (od rd : List Int) (nd nr hd hr fl tg br ct vs : Int) : Prop where
 vs_ : vs = c.length
 len : c.length ≤ 64
 nd_ : 0 ≤ nd ∧ nd ≤ 16
 nr_ : 0 ≤ nr ∧ nr ≤ 16
 hd_ : 0 ≤ hd ∧ hd ≤ 16
 hr_ : 0 ≤ hr ∧ hr ≤ 16
 ct_ : 1 ≤ ct ∧ ct ≤ 8
 code : ∀ (k : Nat) (x : II), c[k]? = some x → madeB nd nr x k = true
 od_ : ∀ (k : Nat) (x : Int), od[k]? = some x → valB x vs = true
 rd_ : ∀ (k : Nat) (x : Int), rd[k]? = some x → valB x vs = true
 fl_ : fl = -1 ∨ valB fl vs = true
 tg_ : tg = -1 ∨ valB tg vs = true
 br_ : br = 0 ∨ (33 ≤ br ∧ br ≤ 37 ∧ tg = -1)
noncomputable instance (c : List II) (od rd : List Int) (nd nr hd hr fl tg br ct vs : Int) : Decidable (RightP c od rd nd nr hd hr fl tg br ct vs) := Classical.propDecidable _
noncomputable def rightB (c : List II) (od rd : List Int) (nd nr hd hr fl tg br ct vs : Int) : Bool := decide (RightP c od rd nd nr hd hr fl tg br ct vs)
theorem rightB_no {c : List II} {od rd : List Int} {nd nr hd hr fl tg br ct vs : Int} (h : RightP c od rd nd nr hd hr fl tg br ct vs → False) : rightB c od rd nd nr hd hr fl tg br ct vs = false := decide_eq_false h
theorem rightB_yes {c : List II} {od rd : List Int} {nd nr hd hr fl tg br ct vs : Int} (h : RightP c od rd nd nr hd hr fl tg br ct vs) : rightB c od rd nd nr hd hr fl tg br ct vs = true := decide_eq_true h
noncomputable def f46b : Code := Try.f46.body.getD .skip
theorem value_s (a k : Int)  : SCall Try.prog T6 46 #[jI a, jI k] (hq []) fun v h => v = .bool (valB a k) ∧ h = hq [] := by
 refine zS Try.f46 f46b 12 0 fun X hX => ?_
 refine zB 10 7 (decide ((a : Int) ≥ 0)) (fun hc1 => ?_) fun hc1 => ?_
 ·refine sd_run 8 ?_;simp only [bd] at hc1;refine zY (.bool (decide ((a : Int) < k))) hX [] ⟨(by unfold valB; congr 1; simp [*]), rfl⟩
 ·refine sd_run 8 ?_;simp only [bd] at hc1;refine zY (.bool false) hX [] ⟨(by unfold valB; congr 1; simp; omega), rfl⟩
def sp46 : List Value → Option Value
 | [.int .i64 a, .int .i64 k] => some (.bool (valB a k))
 | _ => none
noncomputable def T7 : Tab := { T6 with orc := addOrc T6.orc 46 sp46 }
theorem ok_T7 [Bs] : ProgOk Try.prog T7 := ok_T6.know 46 sp46 fun args v h => by
 unfold sp46 at h;split at h
 ·rename_i a k; cases h; exact ⟨rfl, rfl, SCall.data (value_s a k) rfl rfl⟩
 ·cases h
instance : OrcDat T7 := orcDat_add inferInstance 46 sp46 fun l v h => by
 unfold sp46 at h;split at h
 ·cases h; exact ⟨rfl, rfl⟩
 ·cases h
def namedB (op : Int) : Bool := (decide (0 ≤ op) && decide (op ≤ 8)) || (decide (16 ≤ op) && decide (op ≤ 25)) || (decide (32 ≤ op) && decide (op ≤ 40)) || (decide (48 ≤ op) && decide (op ≤ 53)) || (decide (64 ≤ op) && decide (op ≤ 69))
def sizeZ (op : Int) : Int := if op = 1 ∨ (32 ≤ op ∧ op ≤ 38) ∨ op = 66 ∨ op = 67 then 2 else if op = 2 then 5 else if namedB op = true then 1 else 0
def rightI (op n : Int) : Bool := decide (sizeZ op ≠ 0) && ((!decide (sizeZ op = 1) || decide (n = 0)) && (!decide (sizeZ op = 2) || decide (n ≤ 255)))
def endsB (op : Int) : Bool := (decide (32 ≤ op) && decide (op ≤ 40)) || (decide (64 ≤ op) && decide (op ≤ 69))
def plainB (op : Int) : Bool := (decide (0 ≤ op) && decide (op ≤ 8)) || (decide (32 ≤ op) && decide (op ≤ 40)) || (decide (16 ≤ op) && (decide (op ≤ 25) && decide (op ≠ 24)))
def signZ (n : Int) : Int := IntKind.u32.wrap (IntKind.i32.wrap (IntKind.i8.wrap n))
theorem sizeZ_in (op : Int) : sizeZ op = 0 ∨ sizeZ op = 1 ∨ sizeZ op = 2 ∨ sizeZ op = 5 := by unfold sizeZ; split <;> (try split) <;> (try split) <;> simp
theorem sizeZ_wrap (op : Int) : IntKind.u32.wrap (sizeZ op) = sizeZ op := by rcases sizeZ_in op with h | h | h | h <;> rw [h] <;> rfl
theorem named1 (op : Int) : (op < 0 ∨ (9 ≤ op ∧ op ≤ 15) ∨ (26 ≤ op ∧ op ≤ 31) ∨ (41 ≤ op ∧ op ≤ 47) ∨ (54 ≤ op ∧ op ≤ 63) ∨ 70 ≤ op) ∨ op = 0 ∨ op = 1 ∨ op = 2 ∨ op = 3 ∨ op = 4 ∨ op = 5 ∨ op = 6 ∨ op = 7 ∨ op = 8 ∨ op = 16 ∨ op = 17 ∨ op = 18 ∨ op = 19 ∨ op = 20 ∨ op = 21 ∨ op = 22 ∨ op = 23 ∨ op = 24 ∨ op = 25 ∨ op = 32 ∨ op = 33 ∨ op = 34 ∨ op = 35 ∨ op = 36 ∨ op = 37 ∨ op = 38 ∨ op = 39 ∨ op = 40 ∨ op = 48 ∨ op = 49 ∨ op = 50 ∨ op = 51 ∨ op = 52 ∨ op = 53 ∨ op = 64 ∨ op = 65 ∨ op = 66 ∨ op = 67 ∨ op = 68 ∨ op = 69 := by omega
theorem named_cases (op : Int) : op < 0 ∨ (9 ≤ op ∧ op ≤ 15) ∨ (26 ≤ op ∧ op ≤ 31) ∨ (41 ≤ op ∧ op ≤ 47) ∨ (54 ≤ op ∧ op ≤ 63) ∨ 70 ≤ op ∨ op = 0 ∨ op = 1 ∨ op = 2 ∨ op = 3 ∨ op = 4 ∨ op = 5 ∨ op = 6 ∨ op = 7 ∨ op = 8 ∨ op = 16 ∨ op = 17 ∨ op = 18 ∨ op = 19 ∨ op = 20 ∨ op = 21 ∨ op = 22 ∨ op = 23 ∨ op = 24 ∨ op = 25 ∨ op = 32 ∨ op = 33 ∨ op = 34 ∨ op = 35 ∨ op = 36 ∨ op = 37 ∨ op = 38 ∨ op = 39 ∨ op = 40 ∨ op = 48 ∨ op = 49 ∨ op = 50 ∨ op = 51 ∨ op = 52 ∨ op = 53 ∨ op = 64 ∨ op = 65 ∨ op = 66 ∨ op = 67 ∨ op = 68 ∨ op = 69 := by omega
theorem size_gap {op : Int} (h : op < 0 ∨ (9 ≤ op ∧ op ≤ 15) ∨ (26 ≤ op ∧ op ≤ 31) ∨ (41 ≤ op ∧ op ≤ 47) ∨ (54 ≤ op ∧ op ≤ 63) ∨ 70 ≤ op) : sizeZ op = 0 := by
 unfold sizeZ namedB;rw [if_neg (by omega), if_neg (by omega), if_neg (by simp; omega)]
noncomputable def f63b : Code := Try.f63.body.getD .skip
theorem f63_body : Try.f63.body = some f63b := by kernel_rfl
theorem f63_fn : T7.fn 63 = some Try.f63 := by kernel_rfl
theorem lit63 {x : Int} (n : Nat) (v : Value) (he : atEnd (goS Try.prog T7 n ⟨20, .code f63b, [], ⟨initTm 0 #[jI x], hq []⟩⟩) = true := by kernel_rfl) (hp : Try.f63.results.toList.all (presR (goS Try.prog T7 n ⟨20, .code f63b, [], ⟨initTm 0 #[jI x], hq []⟩⟩).s.tm) = true := by kernel_rfl) (hv : aresults T7 (goS Try.prog T7 n ⟨20, .code f63b, [], ⟨initTm 0 #[jI x], hq []⟩⟩).s.tm (goS Try.prog T7 n ⟨20, .code f63b, [], ⟨initTm 0 #[jI x], hq []⟩⟩).s.H Try.f63.results = some v := by kernel_rfl) (hl : subG 0 (goS Try.prog T7 n ⟨20, .code f63b, [], ⟨initTm 0 #[jI x], hq []⟩⟩).s.H [] 0 [] [] [] = true := by kernel_rfl) (hw : rn2 (emOf []) v = some v := by kernel_rfl) (ho : T7.orc 63 #[jI x].toList = none := by kernel_rfl) : SCall Try.prog T7 63 #[jI x] (hq []) fun r h => r = v ∧ h = hq [] := by
 refine scall_sd 20 _ 0 ho f63_fn f63_body rfl rfl rfl fun X hX => ?_
 exact sd_run n (sdY v hX [] [] True.intro ⟨rfl, rfl⟩ he hp hv hl rfl hw)
set_option maxHeartbeats 1000000 in
theorem size_s (op : Int)  : SCall Try.prog T7 63 #[jI op] (hq []) fun v h => v = jI (sizeZ op) ∧ h = hq [] := by
 rcases named1 op with h | rfl | rfl | rfl | rfl | rfl | rfl | rfl | rfl | rfl | rfl | rfl | rfl | rfl | rfl | rfl | rfl | rfl | rfl | rfl | rfl | rfl | rfl | rfl | rfl | rfl | rfl | rfl | rfl | rfl | rfl | rfl | rfl | rfl | rfl | rfl | rfl | rfl | rfl | rfl | rfl
 ·refine zS Try.f63 f63b 20 0 fun X hX => ?_
  refine zN 16 5 (op : Int) 1 (zN 7 6 (op : Int) 32 (zN 7 7 (op : Int) 33 (zN 7 8 (op : Int) 34 ?_)));refine zN 7 9 (op : Int) 35 (zN 7 10 (op : Int) 36 (zN 7 11 (op : Int) 37 (zN 7 12 (op : Int) 38 ?_)));refine zN 7 13 (op : Int) 66 (zN 6 14 (op : Int) 67 (zN 7 16 (op : Int) 2 (zN 27 5 (op : Int) 0 ?_)));refine zN 7 7 (op : Int) 1 (zN 7 9 (op : Int) 2 (zN 7 11 (op : Int) 3 (zN 7 13 (op : Int) 4 ?_)));refine zN 7 15 (op : Int) 5 (zN 7 17 (op : Int) 6 (zN 7 19 (op : Int) 7 (zN 7 21 (op : Int) 8 ?_)));refine zN 7 23 (op : Int) 32 (zN 7 25 (op : Int) 33 (zN 7 27 (op : Int) 34 (zN 7 29 (op : Int) 35 ?_)));refine zN 7 31 (op : Int) 36 (zN 7 33 (op : Int) 37 (zN 7 35 (op : Int) 38 (zN 7 37 (op : Int) 39 ?_)));refine zN 7 39 (op : Int) 40 (zN 26 5 (op : Int) 16 (zN 7 7 (op : Int) 17 (zN 7 9 (op : Int) 18 ?_)));refine zN 7 11 (op : Int) 19 (zN 7 13 (op : Int) 20 (zN 7 15 (op : Int) 21 (zN 7 17 (op : Int) 22 ?_)));refine zN 7 19 (op : Int) 23 (zN 7 21 (op : Int) 24 (zN 7 23 (op : Int) 25 (zN 7 25 (op : Int) 48 ?_)));refine zN 7 27 (op : Int) 49 (zN 7 29 (op : Int) 50 (zN 7 31 (op : Int) 51 (zN 7 33 (op : Int) 52 ?_)));refine zN 7 35 (op : Int) 53 (zN 7 37 (op : Int) 64 (zN 7 39 (op : Int) 65 (zN 7 41 (op : Int) 66 ?_)));refine zN 7 43 (op : Int) 67 (zN 7 45 (op : Int) 68 (zN 7 47 (op : Int) 69 (sd_run 30 ?_)));refine zY (jI 0) hX [] ⟨(congrArg _ (size_gap zo).symm), rfl⟩
 ·exact lit63 137 (.int .i64 1)
 ·exact lit63 31 (.int .i64 2)
 ·exact lit63 97 (.int .i64 5)
 ·exact lit63 158 (.int .i64 1)
 ·exact lit63 165 (.int .i64 1)
 ·exact lit63 172 (.int .i64 1)
 ·exact lit63 179 (.int .i64 1)
 ·exact lit63 186 (.int .i64 1)
 ·exact lit63 193 (.int .i64 1)
 ·exact lit63 287 (.int .i64 1)
 ·exact lit63 294 (.int .i64 1)
 ·exact lit63 301 (.int .i64 1)
 ·exact lit63 308 (.int .i64 1)
 ·exact lit63 315 (.int .i64 1)
 ·exact lit63 322 (.int .i64 1)
 ·exact lit63 329 (.int .i64 1)
 ·exact lit63 336 (.int .i64 1)
 ·exact lit63 343 (.int .i64 1)
 ·exact lit63 350 (.int .i64 1)
 ·exact lit63 38 (.int .i64 2)
 ·exact lit63 45 (.int .i64 2)
 ·exact lit63 52 (.int .i64 2)
 ·exact lit63 59 (.int .i64 2)
 ·exact lit63 66 (.int .i64 2)
 ·exact lit63 73 (.int .i64 2)
 ·exact lit63 80 (.int .i64 2)
 ·exact lit63 249 (.int .i64 1)
 ·exact lit63 256 (.int .i64 1)
 ·exact lit63 357 (.int .i64 1)
 ·exact lit63 364 (.int .i64 1)
 ·exact lit63 371 (.int .i64 1)
 ·exact lit63 378 (.int .i64 1)
 ·exact lit63 385 (.int .i64 1)
 ·exact lit63 392 (.int .i64 1)
 ·exact lit63 399 (.int .i64 1)
 ·exact lit63 406 (.int .i64 1)
 ·exact lit63 87 (.int .i64 2)
 ·exact lit63 90 (.int .i64 2)
 ·exact lit63 427 (.int .i64 1)
 ·exact lit63 434 (.int .i64 1)
def sp63 : List Value → Option Value
 | [.int .i64 op] => some (.int .i64 (sizeZ op))
 | _ => none
noncomputable def T8 : Tab := { T7 with orc := addOrc T7.orc 63 sp63 }
theorem ok_T8 [Bs] : ProgOk Try.prog T8 := ok_T7.know 63 sp63 fun args v h => by
 unfold sp63 at h;split at h
 ·rename_i op; cases h; exact ⟨rfl, rfl, SCall.data (size_s op) rfl rfl⟩
 ·cases h
instance : OrcDat T8 := orcDat_add inferInstance 63 sp63 fun l v h => by
 unfold sp63 at h;split at h
 ·cases h; exact ⟨rfl, rfl⟩
 ·cases h
noncomputable def f60b : Code := Try.f60.body.getD .skip
theorem rightI_s (op n : Int)  : SCall Try.prog T8 60 #[.agg #[jI op, jU n]] (hq []) fun v h => v = .bool (rightI op n) ∧ h = hq [] := by
 refine zS Try.f60 f60b 18 0 fun X hX => ?_
 refine sd_run 11 (sd_ask 5 (jI (sizeZ op)) 63 #[jI op] kr kr kr rfl (sd_run 9 ?_));refine zB 0 6 (((sizeZ op) : Int) == 0) (fun hc1 => ?_) fun hc1 => ?_
 ·refine sd_run 9 ?_;simp only [bd] at hc1;refine zY (.bool false) hX [] ⟨(by congr 1; unfold rightI; simp [*]; try (rw [Bool.eq_iff_iff]; simp)), rfl⟩
 ·refine zB 7 8 (((sizeZ op) : Int) == 1) (fun hc2 => ?_) fun hc2 => ?_
  ·refine sd_run 12 ?_;simp only [bd] at hc1 hc2;refine zY (.bool ((n : Int) == 0)) hX [] ⟨(by congr 1; unfold rightI; simp [*]; try (rw [Bool.eq_iff_iff]; simp)), rfl⟩
  ·refine zB 7 13 (((sizeZ op) : Int) == 2) (fun hc3 => ?_) fun hc3 => ?_
   ·refine sd_run 12 ?_;simp only [bd] at hc1 hc2 hc3;refine zY (.bool (decide ((n : Int) ≤ 255))) hX [] ⟨(by congr 1; unfold rightI; simp [*]; try (rw [Bool.eq_iff_iff]; simp)), rfl⟩
   ·refine sd_run 10 ?_;simp only [bd] at hc1 hc2 hc3;refine zY (.bool true) hX [] ⟨(by congr 1; unfold rightI; simp [*]; try (rw [Bool.eq_iff_iff]; simp)), rfl⟩
def sp60 : List Value → Option Value
 | [.agg ⟨[.int .i64 op, .int .u32 n]⟩] => some (.bool (rightI op n))
 | _ => none
noncomputable def T9 : Tab := { T8 with orc := addOrc T8.orc 60 sp60 }
theorem ok_T9 [Bs] : ProgOk Try.prog T9 := ok_T8.know 60 sp60 fun args v h => by
 unfold sp60 at h;split at h
 ·rename_i op n; cases h; exact ⟨rfl, rfl, SCall.data (rightI_s op n) rfl rfl⟩
 ·cases h
instance : OrcDat T9 := orcDat_add inferInstance 60 sp60 fun l v h => by
 unfold sp60 at h;split at h
 ·cases h; exact ⟨rfl, rfl⟩
 ·cases h
noncomputable def f61b : Code := Try.f61.body.getD .skip
theorem plainB_s (op : Int)  : SCall Try.prog T9 61 #[jI op] (hq []) fun v h => v = .bool (plainB op) ∧ h = hq [] := by
 refine zS Try.f61 f61b 26 0 fun X hX => ?_
 refine zB 13 6 (decide ((op : Int) ≥ 0)) (fun hc1 => ?_) fun hc1 => ?_
 ·refine zB 6 3 (decide ((op : Int) ≤ 8)) (fun hc2 => ?_) fun hc2 => ?_
  ·refine sd_run 12 ?_;simp only [bd] at hc1 hc2;refine zY (.bool true) hX [] ⟨(by congr 1; unfold plainB; rw [Bool.eq_iff_iff]; simp; omega), rfl⟩
  ·refine zB 5 12 (decide ((op : Int) ≥ 32)) (fun hc3 => ?_) fun hc3 => ?_
   ·refine zB 6 3 (decide ((op : Int) ≤ 40)) (fun hc4 => ?_) fun hc4 => ?_
    ·refine sd_run 9 ?_;simp only [bd] at hc1 hc2 hc3 hc4;refine zY (.bool true) hX [] ⟨(by congr 1; unfold plainB; rw [Bool.eq_iff_iff]; simp; omega), rfl⟩
    ·refine zB 9 18 (decide ((op : Int) ≥ 16)) (fun hc5 => ?_) fun hc5 => ?_
     ·refine zB 4 22 (decide ((op : Int) ≤ 25)) (fun hc6 => ?_) fun hc6 => ?_
      ·refine zB 7 2 ((op : Int) != 24) (fun hc7 => ?_) fun hc7 => ?_
       ·simp only [bd] at hc1 hc2 hc3 hc4 hc5 hc6 hc7;refine zY (.bool true) hX [] ⟨(by congr 1; unfold plainB; rw [Bool.eq_iff_iff]; simp; omega), rfl⟩
       ·simp only [bd] at hc1 hc2 hc3 hc4 hc5 hc6 hc7;refine zY (.bool false) hX [] ⟨(by congr 1; unfold plainB; rw [Bool.eq_iff_iff]; simp; omega), rfl⟩
      ·refine sd_run 7 ?_;simp only [bd] at hc1 hc2 hc3 hc4 hc5 hc6;refine zY (.bool false) hX [] ⟨(by congr 1; unfold plainB; rw [Bool.eq_iff_iff]; simp; omega), rfl⟩
     ·refine sd_run 11 ?_;simp only [bd] at hc1 hc2 hc3 hc4 hc5;refine zY (.bool false) hX [] ⟨(by congr 1; unfold plainB; rw [Bool.eq_iff_iff]; simp; omega), rfl⟩
   ·refine zB 15 18 (decide ((op : Int) ≥ 16)) (fun hc8 => ?_) fun hc8 => ?_
    ·refine zB 4 22 (decide ((op : Int) ≤ 25)) (fun hc9 => ?_) fun hc9 => ?_
     ·refine zB 7 2 ((op : Int) != 24) (fun hc10 => ?_) fun hc10 => ?_
      ·simp only [bd] at hc1 hc2 hc3 hc8 hc9 hc10;refine zY (.bool true) hX [] ⟨(by congr 1; unfold plainB; rw [Bool.eq_iff_iff]; simp; omega), rfl⟩
      ·simp only [bd] at hc1 hc2 hc3 hc8 hc9 hc10;refine zY (.bool false) hX [] ⟨(by congr 1; unfold plainB; rw [Bool.eq_iff_iff]; simp; omega), rfl⟩
     ·refine sd_run 7 ?_;simp only [bd] at hc1 hc2 hc3 hc8 hc9;refine zY (.bool false) hX [] ⟨(by congr 1; unfold plainB; rw [Bool.eq_iff_iff]; simp; omega), rfl⟩
    ·refine sd_run 11 ?_;simp only [bd] at hc1 hc2 hc3 hc8;refine zY (.bool false) hX [] ⟨(by congr 1; unfold plainB; rw [Bool.eq_iff_iff]; simp; omega), rfl⟩
 ·refine zB 11 12 (decide ((op : Int) ≥ 32)) (fun hc11 => ?_) fun hc11 => ?_
  ·refine zB 6 3 (decide ((op : Int) ≤ 40)) (fun hc12 => ?_) fun hc12 => ?_
   ·refine sd_run 9 ?_;simp only [bd] at hc1 hc11 hc12;refine zY (.bool true) hX [] ⟨(by congr 1; unfold plainB; rw [Bool.eq_iff_iff]; simp; omega), rfl⟩
   ·refine zB 9 18 (decide ((op : Int) ≥ 16)) (fun hc13 => ?_) fun hc13 => ?_
    ·refine zB 4 22 (decide ((op : Int) ≤ 25)) (fun hc14 => ?_) fun hc14 => ?_
     ·refine zB 7 2 ((op : Int) != 24) (fun hc15 => ?_) fun hc15 => ?_
      ·simp only [bd] at hc1 hc11 hc12 hc13 hc14 hc15;refine zY (.bool true) hX [] ⟨(by congr 1; unfold plainB; rw [Bool.eq_iff_iff]; simp; omega), rfl⟩
      ·simp only [bd] at hc1 hc11 hc12 hc13 hc14 hc15;refine zY (.bool false) hX [] ⟨(by congr 1; unfold plainB; rw [Bool.eq_iff_iff]; simp; omega), rfl⟩
     ·refine sd_run 7 ?_;simp only [bd] at hc1 hc11 hc12 hc13 hc14;refine zY (.bool false) hX [] ⟨(by congr 1; unfold plainB; rw [Bool.eq_iff_iff]; simp; omega), rfl⟩
    ·refine sd_run 11 ?_;simp only [bd] at hc1 hc11 hc12 hc13;refine zY (.bool false) hX [] ⟨(by congr 1; unfold plainB; rw [Bool.eq_iff_iff]; simp; omega), rfl⟩
  ·refine zB 15 18 (decide ((op : Int) ≥ 16)) (fun hc16 => ?_) fun hc16 => ?_
   ·refine zB 4 22 (decide ((op : Int) ≤ 25)) (fun hc17 => ?_) fun hc17 => ?_
    ·refine zB 7 2 ((op : Int) != 24) (fun hc18 => ?_) fun hc18 => ?_
     ·simp only [bd] at hc1 hc11 hc16 hc17 hc18;refine zY (.bool true) hX [] ⟨(by congr 1; unfold plainB; rw [Bool.eq_iff_iff]; simp; omega), rfl⟩
     ·simp only [bd] at hc1 hc11 hc16 hc17 hc18;refine zY (.bool false) hX [] ⟨(by congr 1; unfold plainB; rw [Bool.eq_iff_iff]; simp; omega), rfl⟩
    ·refine sd_run 7 ?_;simp only [bd] at hc1 hc11 hc16 hc17;refine zY (.bool false) hX [] ⟨(by congr 1; unfold plainB; rw [Bool.eq_iff_iff]; simp; omega), rfl⟩
   ·refine sd_run 11 ?_;simp only [bd] at hc1 hc11 hc16;refine zY (.bool false) hX [] ⟨(by congr 1; unfold plainB; rw [Bool.eq_iff_iff]; simp; omega), rfl⟩
def sp61 : List Value → Option Value
 | [.int .i64 op] => some (.bool (plainB op))
 | _ => none
noncomputable def T10 : Tab := { T9 with orc := addOrc T9.orc 61 sp61 }
theorem ok_T10 [Bs] : ProgOk Try.prog T10 := ok_T9.know 61 sp61 fun args v h => by
 unfold sp61 at h;split at h
 ·rename_i op; cases h; exact ⟨rfl, rfl, SCall.data (plainB_s op) rfl rfl⟩
 ·cases h
instance : OrcDat T10 := orcDat_add inferInstance 61 sp61 fun l v h => by
 unfold sp61 at h;split at h
 ·cases h; exact ⟨rfl, rfl⟩
 ·cases h
noncomputable def f62b : Code := Try.f62.body.getD .skip
theorem endsB_s (op : Int)  : SCall Try.prog T10 62 #[jI op] (hq []) fun v h => v = .bool (endsB op) ∧ h = hq [] := by
 refine zS Try.f62 f62b 17 0 fun X hX => ?_
 refine zB 10 5 (decide ((op : Int) ≥ 32)) (fun hc1 => ?_) fun hc1 => ?_
 ·refine zB 4 9 (decide ((op : Int) ≤ 40)) (fun hc2 => ?_) fun hc2 => ?_
  ·refine sd_run 11 ?_;simp only [bd] at hc1 hc2;refine zY (.bool true) hX [] ⟨(by congr 1; unfold endsB; rw [Bool.eq_iff_iff]; simp; omega), rfl⟩
  ·refine zB 3 12 (decide ((op : Int) ≥ 64)) (fun hc3 => ?_) fun hc3 => ?_
   ·refine zB 8 2 (decide ((op : Int) ≤ 69)) (fun hc4 => ?_) fun hc4 => ?_
    ·simp only [bd] at hc1 hc2 hc3 hc4;refine zY (.bool true) hX [] ⟨(by congr 1; unfold endsB; rw [Bool.eq_iff_iff]; simp; omega), rfl⟩
    ·simp only [bd] at hc1 hc2 hc3 hc4;refine zY (.bool false) hX [] ⟨(by congr 1; unfold endsB; rw [Bool.eq_iff_iff]; simp; omega), rfl⟩
   ·refine sd_run 8 ?_;simp only [bd] at hc1 hc2 hc3;refine zY (.bool false) hX [] ⟨(by congr 1; unfold endsB; rw [Bool.eq_iff_iff]; simp; omega), rfl⟩
 ·refine zB 7 12 (decide ((op : Int) ≥ 64)) (fun hc5 => ?_) fun hc5 => ?_
  ·refine zB 8 2 (decide ((op : Int) ≤ 69)) (fun hc6 => ?_) fun hc6 => ?_
   ·simp only [bd] at hc1 hc5 hc6;refine zY (.bool true) hX [] ⟨(by congr 1; unfold endsB; rw [Bool.eq_iff_iff]; simp; omega), rfl⟩
   ·simp only [bd] at hc1 hc5 hc6;refine zY (.bool false) hX [] ⟨(by congr 1; unfold endsB; rw [Bool.eq_iff_iff]; simp; omega), rfl⟩
  ·refine sd_run 8 ?_;simp only [bd] at hc1 hc5;refine zY (.bool false) hX [] ⟨(by congr 1; unfold endsB; rw [Bool.eq_iff_iff]; simp; omega), rfl⟩
def sp62 : List Value → Option Value
 | [.int .i64 op] => some (.bool (endsB op))
 | _ => none
noncomputable def T11 : Tab := { T10 with orc := addOrc T10.orc 62 sp62 }
theorem ok_T11 [Bs] : ProgOk Try.prog T11 := ok_T10.know 62 sp62 fun args v h => by
 unfold sp62 at h;split at h
 ·rename_i op; cases h; exact ⟨rfl, rfl, SCall.data (endsB_s op) rfl rfl⟩
 ·cases h
instance : OrcDat T11 := orcDat_add inferInstance 62 sp62 fun l v h => by
 unfold sp62 at h;split at h
 ·cases h; exact ⟨rfl, rfl⟩
 ·cases h
noncomputable def f65b : Code := Try.f65.body.getD .skip
theorem sign_s (n : Int)  : SCall Try.prog T11 65 #[jU n] (hq []) fun v h => v = jU (signZ n) ∧ h = hq [] := by
 refine zS Try.f65 f65b 7 0 fun X hX => ?_
 refine sd_run 15 ?_;refine zY (jU (IntKind.u32.wrap (IntKind.i32.wrap (IntKind.i8.wrap n)))) hX [] ⟨rfl, rfl⟩
def sp65 : List Value → Option Value
 | [.int .u32 n] => some (.int .u32 (signZ n))
 | _ => none
noncomputable def T12 : Tab := { T11 with orc := addOrc T11.orc 65 sp65 }
theorem ok_T12 [Bs] : ProgOk Try.prog T12 := ok_T11.know 65 sp65 fun args v h => by
 unfold sp65 at h;split at h
 ·rename_i n; cases h; exact ⟨rfl, rfl, SCall.data (sign_s n) rfl rfl⟩
 ·cases h
instance : OrcDat T12 := orcDat_add inferInstance 65 sp65 fun l v h => by
 unfold sp65 at h;split at h
 ·cases h; exact ⟨rfl, rfl⟩
 ·cases h
noncomputable def f77b : Code := Try.f77.body.getD .skip
theorem f77_body : Try.f77.body = some f77b := by kernel_rfl
theorem f77_fn : T12.fn 77 = some Try.f77 := by kernel_rfl
theorem lit77 {x : Int} (n : Nat) (v : Value) (he : atEnd (goS Try.prog T12 n ⟨64, .code f77b, [], ⟨initTm 0 #[jI x], hq []⟩⟩) = true := by kernel_rfl) (hp : Try.f77.results.toList.all (presR (goS Try.prog T12 n ⟨64, .code f77b, [], ⟨initTm 0 #[jI x], hq []⟩⟩).s.tm) = true := by kernel_rfl) (hv : aresults T12 (goS Try.prog T12 n ⟨64, .code f77b, [], ⟨initTm 0 #[jI x], hq []⟩⟩).s.tm (goS Try.prog T12 n ⟨64, .code f77b, [], ⟨initTm 0 #[jI x], hq []⟩⟩).s.H Try.f77.results = some v := by kernel_rfl) (hl : subG 0 (goS Try.prog T12 n ⟨64, .code f77b, [], ⟨initTm 0 #[jI x], hq []⟩⟩).s.H [] 0 [] [] [] = true := by kernel_rfl) (hw : rn2 (emOf []) v = some v := by kernel_rfl) (ho : T12.orc 77 #[jI x].toList = none := by kernel_rfl) : SCall Try.prog T12 77 #[jI x] (hq []) fun r h => r = v ∧ h = hq [] := by
 refine scall_sd 64 _ 0 ho f77_fn f77_body rfl rfl rfl fun X hX => ?_
 exact sd_run n (sdY v hX [] [] True.intro ⟨rfl, rfl⟩ he hp hv hl rfl hw)
set_option maxHeartbeats 1000000 in
theorem size2_s (op : Int)  : SCall Try.prog T12 77 #[jI op] (hq []) fun v h => v = jI (sizeZ op) ∧ h = hq [] := by
 rcases named_cases op with h | h | h | h | h | h | rfl | rfl | rfl | rfl | rfl | rfl | rfl | rfl | rfl | rfl | rfl | rfl | rfl | rfl | rfl | rfl | rfl | rfl | rfl | rfl | rfl | rfl | rfl | rfl | rfl | rfl | rfl | rfl | rfl | rfl | rfl | rfl | rfl | rfl | rfl | rfl | rfl | rfl | rfl | rfl
 ·refine zS Try.f77 f77b 64 0 fun X hX => ?_
  refine zN 11 5 (op : Int) 2 (zN 8 8 (op : Int) 1 (zF 3 11 ((op : Int) ≥ 32) (zN 8 19 (op : Int) 66 ?_)));refine zN 4 23 (op : Int) 67 (zF 9 27 ((op : Int) ≥ 0) (zF 7 34 ((op : Int) ≥ 16) (zN 8 42 (op : Int) 39 ?_)));refine zN 4 46 (op : Int) 40 (zF 4 50 ((op : Int) ≥ 48) (zF 8 58 ((op : Int) ≥ 64) (sd_run 18 ?_)));refine zY (jI 0) hX [] ⟨(congrArg _ (size_gap zo).symm), rfl⟩
 ·refine zS Try.f77 f77b 64 0 fun X hX => ?_
  refine zN 11 5 (op : Int) 2 (zN 8 8 (op : Int) 1 (zF 3 11 ((op : Int) ≥ 32) (zN 8 19 (op : Int) 66 ?_)));refine zN 4 23 (op : Int) 67 (zT 9 27 ((op : Int) ≥ 0) (zF 3 30 ((op : Int) ≤ 8) (zF 4 34 ((op : Int) ≥ 16) ?_)));refine zN 8 42 (op : Int) 39 (zN 4 46 (op : Int) 40 (zF 4 50 ((op : Int) ≥ 48) (zF 8 58 ((op : Int) ≥ 64) ?_)));refine sd_run 18 ?_;refine zY (jI 0) hX [] ⟨(congrArg _ (size_gap zo).symm), rfl⟩
 ·refine zS Try.f77 f77b 64 0 fun X hX => ?_
  refine zN 11 5 (op : Int) 2 (zN 8 8 (op : Int) 1 (zF 3 11 ((op : Int) ≥ 32) (zN 8 19 (op : Int) 66 ?_)));refine zN 4 23 (op : Int) 67 (zT 9 27 ((op : Int) ≥ 0) (zF 3 30 ((op : Int) ≤ 8) (zT 4 34 ((op : Int) ≥ 16) ?_)));refine zF 3 37 ((op : Int) ≤ 25) (zN 5 42 (op : Int) 39 (zN 4 46 (op : Int) 40 (zF 4 50 ((op : Int) ≥ 48) ?_)));refine zF 8 58 ((op : Int) ≥ 64) (sd_run 18 ?_);refine zY (jI 0) hX [] ⟨(congrArg _ (size_gap zo).symm), rfl⟩
 ·refine zS Try.f77 f77b 64 0 fun X hX => ?_
  refine zN 11 5 (op : Int) 2 (zN 8 8 (op : Int) 1 (zT 3 11 ((op : Int) ≥ 32) (zF 3 14 ((op : Int) ≤ 38) ?_)));refine zN 5 19 (op : Int) 66 (zN 4 23 (op : Int) 67 (zT 9 27 ((op : Int) ≥ 0) (zF 3 30 ((op : Int) ≤ 8) ?_)));refine zT 4 34 ((op : Int) ≥ 16) (zF 3 37 ((op : Int) ≤ 25) (zN 5 42 (op : Int) 39 (zN 4 46 (op : Int) 40 ?_)));refine zF 4 50 ((op : Int) ≥ 48) (zF 8 58 ((op : Int) ≥ 64) (sd_run 18 ?_));refine zY (jI 0) hX [] ⟨(congrArg _ (size_gap zo).symm), rfl⟩
 ·refine zS Try.f77 f77b 64 0 fun X hX => ?_
  refine zN 11 5 (op : Int) 2 (zN 8 8 (op : Int) 1 (zT 3 11 ((op : Int) ≥ 32) (zF 3 14 ((op : Int) ≤ 38) ?_)));refine zN 5 19 (op : Int) 66 (zN 4 23 (op : Int) 67 (zT 9 27 ((op : Int) ≥ 0) (zF 3 30 ((op : Int) ≤ 8) ?_)));refine zT 4 34 ((op : Int) ≥ 16) (zF 3 37 ((op : Int) ≤ 25) (zN 5 42 (op : Int) 39 (zN 4 46 (op : Int) 40 ?_)));refine zT 4 50 ((op : Int) ≥ 48) (zF 3 53 ((op : Int) ≤ 53) (zF 5 58 ((op : Int) ≥ 64) (sd_run 18 ?_)));refine zY (jI 0) hX [] ⟨(congrArg _ (size_gap zo).symm), rfl⟩
 ·refine zS Try.f77 f77b 64 0 fun X hX => ?_
  refine zN 11 5 (op : Int) 2 (zN 8 8 (op : Int) 1 (zT 3 11 ((op : Int) ≥ 32) (zF 3 14 ((op : Int) ≤ 38) ?_)));refine zN 5 19 (op : Int) 66 (zN 4 23 (op : Int) 67 (zT 9 27 ((op : Int) ≥ 0) (zF 3 30 ((op : Int) ≤ 8) ?_)));refine zT 4 34 ((op : Int) ≥ 16) (zF 3 37 ((op : Int) ≤ 25) (zN 5 42 (op : Int) 39 (zN 4 46 (op : Int) 40 ?_)));refine zT 4 50 ((op : Int) ≥ 48) (zF 3 53 ((op : Int) ≤ 53) (zT 5 58 ((op : Int) ≥ 64) (zF 3 61 ((op : Int) ≤ 69) ?_)));refine sd_run 15 ?_;refine zY (jI 0) hX [] ⟨(congrArg _ (size_gap zo).symm), rfl⟩
 ·exact lit77 91 (.int .i64 1)
 ·exact lit77 47 (.int .i64 2)
 ·exact lit77 23 (.int .i64 5)
 ·exact lit77 91 (.int .i64 1)
 ·exact lit77 91 (.int .i64 1)
 ·exact lit77 91 (.int .i64 1)
 ·exact lit77 91 (.int .i64 1)
 ·exact lit77 91 (.int .i64 1)
 ·exact lit77 91 (.int .i64 1)
 ·exact lit77 91 (.int .i64 1)
 ·exact lit77 91 (.int .i64 1)
 ·exact lit77 91 (.int .i64 1)
 ·exact lit77 91 (.int .i64 1)
 ·exact lit77 91 (.int .i64 1)
 ·exact lit77 91 (.int .i64 1)
 ·exact lit77 91 (.int .i64 1)
 ·exact lit77 91 (.int .i64 1)
 ·exact lit77 91 (.int .i64 1)
 ·exact lit77 91 (.int .i64 1)
 ·exact lit77 47 (.int .i64 2)
 ·exact lit77 47 (.int .i64 2)
 ·exact lit77 47 (.int .i64 2)
 ·exact lit77 47 (.int .i64 2)
 ·exact lit77 47 (.int .i64 2)
 ·exact lit77 47 (.int .i64 2)
 ·exact lit77 47 (.int .i64 2)
 ·exact lit77 91 (.int .i64 1)
 ·exact lit77 91 (.int .i64 1)
 ·exact lit77 91 (.int .i64 1)
 ·exact lit77 91 (.int .i64 1)
 ·exact lit77 91 (.int .i64 1)
 ·exact lit77 91 (.int .i64 1)
 ·exact lit77 91 (.int .i64 1)
 ·exact lit77 91 (.int .i64 1)
 ·exact lit77 91 (.int .i64 1)
 ·exact lit77 91 (.int .i64 1)
 ·exact lit77 47 (.int .i64 2)
 ·exact lit77 47 (.int .i64 2)
 ·exact lit77 91 (.int .i64 1)
 ·exact lit77 91 (.int .i64 1)
def sp77 : List Value → Option Value
 | [.int .i64 op] => some (.int .i64 (sizeZ op))
 | _ => none
noncomputable def T13 : Tab := { T12 with orc := addOrc T12.orc 77 sp77 }
theorem ok_T13 [Bs] : ProgOk Try.prog T13 := ok_T12.know 77 sp77 fun args v h => by
 unfold sp77 at h;split at h
 ·rename_i op; cases h; exact ⟨rfl, rfl, SCall.data (size2_s op) rfl rfl⟩
 ·cases h
instance : OrcDat T13 := orcDat_add inferInstance 77 sp77 fun l v h => by
 unfold sp77 at h;split at h
 ·cases h; exact ⟨rfl, rfl⟩
 ·cases h
noncomputable def f58b : Code := Try.f58.body.getD .skip
theorem plainB2_s (op : Int)  : SCall Try.prog T13 58 #[jI op] (hq []) fun v h => v = .bool (plainB op) ∧ h = hq [] := by
 refine zS Try.f58 f58b 29 0 fun X hX => ?_
 refine zB 10 5 (decide ((op : Int) ≥ 0)) (fun hc1 => ?_) fun hc1 => ?_
 ·refine zB 4 9 (decide ((op : Int) ≤ 8)) (fun hc2 => ?_) fun hc2 => ?_
  ·refine sd_run 23 ?_;simp only [bd] at hc1 hc2;refine zY (.bool true) hX [] ⟨(by congr 1; unfold plainB; rw [Bool.eq_iff_iff]; simp; omega), rfl⟩
  ·refine zB 3 12 (decide ((op : Int) ≥ 16)) (fun hc3 => ?_) fun hc3 => ?_
   ·refine zB 4 16 (decide ((op : Int) ≤ 25)) (fun hc4 => ?_) fun hc4 => ?_
    ·refine zB 5 21 ((op : Int) != 24) (fun hc5 => ?_) fun hc5 => ?_
     ·refine sd_run 11 ?_;simp only [bd] at hc1 hc2 hc3 hc4 hc5;refine zY (.bool true) hX [] ⟨(by congr 1; unfold plainB; rw [Bool.eq_iff_iff]; simp; omega), rfl⟩
     ·refine zB 3 24 (decide ((op : Int) ≥ 32)) (fun hc6 => ?_) fun hc6 => ?_
      ·refine zB 8 2 (decide ((op : Int) ≤ 40)) (fun hc7 => ?_) fun hc7 => ?_
       ·simp only [bd] at hc1 hc2 hc3 hc4 hc5 hc6 hc7;refine zY (.bool true) hX [] ⟨(by congr 1; unfold plainB; rw [Bool.eq_iff_iff]; simp; omega), rfl⟩
       ·simp only [bd] at hc1 hc2 hc3 hc4 hc5 hc6 hc7;refine zY (.bool false) hX [] ⟨(by congr 1; unfold plainB; rw [Bool.eq_iff_iff]; simp; omega), rfl⟩
      ·refine sd_run 8 ?_;simp only [bd] at hc1 hc2 hc3 hc4 hc5 hc6;refine zY (.bool false) hX [] ⟨(by congr 1; unfold plainB; rw [Bool.eq_iff_iff]; simp; omega), rfl⟩
    ·refine zB 8 24 (decide ((op : Int) ≥ 32)) (fun hc8 => ?_) fun hc8 => ?_
     ·refine zB 8 2 (decide ((op : Int) ≤ 40)) (fun hc9 => ?_) fun hc9 => ?_
      ·simp only [bd] at hc1 hc2 hc3 hc4 hc8 hc9;refine zY (.bool true) hX [] ⟨(by congr 1; unfold plainB; rw [Bool.eq_iff_iff]; simp; omega), rfl⟩
      ·simp only [bd] at hc1 hc2 hc3 hc4 hc8 hc9;refine zY (.bool false) hX [] ⟨(by congr 1; unfold plainB; rw [Bool.eq_iff_iff]; simp; omega), rfl⟩
     ·refine sd_run 8 ?_;simp only [bd] at hc1 hc2 hc3 hc4 hc8;refine zY (.bool false) hX [] ⟨(by congr 1; unfold plainB; rw [Bool.eq_iff_iff]; simp; omega), rfl⟩
   ·refine zB 12 24 (decide ((op : Int) ≥ 32)) (fun hc10 => ?_) fun hc10 => ?_
    ·refine zB 8 2 (decide ((op : Int) ≤ 40)) (fun hc11 => ?_) fun hc11 => ?_
     ·simp only [bd] at hc1 hc2 hc3 hc10 hc11;refine zY (.bool true) hX [] ⟨(by congr 1; unfold plainB; rw [Bool.eq_iff_iff]; simp; omega), rfl⟩
     ·simp only [bd] at hc1 hc2 hc3 hc10 hc11;refine zY (.bool false) hX [] ⟨(by congr 1; unfold plainB; rw [Bool.eq_iff_iff]; simp; omega), rfl⟩
    ·refine sd_run 8 ?_;simp only [bd] at hc1 hc2 hc3 hc10;refine zY (.bool false) hX [] ⟨(by congr 1; unfold plainB; rw [Bool.eq_iff_iff]; simp; omega), rfl⟩
 ·refine zB 7 12 (decide ((op : Int) ≥ 16)) (fun hc12 => ?_) fun hc12 => ?_
  ·refine zB 4 16 (decide ((op : Int) ≤ 25)) (fun hc13 => ?_) fun hc13 => ?_
   ·refine zB 5 21 ((op : Int) != 24) (fun hc14 => ?_) fun hc14 => ?_
    ·refine sd_run 11 ?_;simp only [bd] at hc1 hc12 hc13 hc14;refine zY (.bool true) hX [] ⟨(by congr 1; unfold plainB; rw [Bool.eq_iff_iff]; simp; omega), rfl⟩
    ·refine zB 3 24 (decide ((op : Int) ≥ 32)) (fun hc15 => ?_) fun hc15 => ?_
     ·refine zB 8 2 (decide ((op : Int) ≤ 40)) (fun hc16 => ?_) fun hc16 => ?_
      ·simp only [bd] at hc1 hc12 hc13 hc14 hc15 hc16;refine zY (.bool true) hX [] ⟨(by congr 1; unfold plainB; rw [Bool.eq_iff_iff]; simp; omega), rfl⟩
      ·simp only [bd] at hc1 hc12 hc13 hc14 hc15 hc16;refine zY (.bool false) hX [] ⟨(by congr 1; unfold plainB; rw [Bool.eq_iff_iff]; simp; omega), rfl⟩
     ·refine sd_run 8 ?_;simp only [bd] at hc1 hc12 hc13 hc14 hc15;refine zY (.bool false) hX [] ⟨(by congr 1; unfold plainB; rw [Bool.eq_iff_iff]; simp; omega), rfl⟩
   ·refine zB 8 24 (decide ((op : Int) ≥ 32)) (fun hc17 => ?_) fun hc17 => ?_
    ·refine zB 8 2 (decide ((op : Int) ≤ 40)) (fun hc18 => ?_) fun hc18 => ?_
     ·simp only [bd] at hc1 hc12 hc13 hc17 hc18;refine zY (.bool true) hX [] ⟨(by congr 1; unfold plainB; rw [Bool.eq_iff_iff]; simp; omega), rfl⟩
     ·simp only [bd] at hc1 hc12 hc13 hc17 hc18;refine zY (.bool false) hX [] ⟨(by congr 1; unfold plainB; rw [Bool.eq_iff_iff]; simp; omega), rfl⟩
    ·refine sd_run 8 ?_;simp only [bd] at hc1 hc12 hc13 hc17;refine zY (.bool false) hX [] ⟨(by congr 1; unfold plainB; rw [Bool.eq_iff_iff]; simp; omega), rfl⟩
  ·refine zB 12 24 (decide ((op : Int) ≥ 32)) (fun hc19 => ?_) fun hc19 => ?_
   ·refine zB 8 2 (decide ((op : Int) ≤ 40)) (fun hc20 => ?_) fun hc20 => ?_
    ·simp only [bd] at hc1 hc12 hc19 hc20;refine zY (.bool true) hX [] ⟨(by congr 1; unfold plainB; rw [Bool.eq_iff_iff]; simp; omega), rfl⟩
    ·simp only [bd] at hc1 hc12 hc19 hc20;refine zY (.bool false) hX [] ⟨(by congr 1; unfold plainB; rw [Bool.eq_iff_iff]; simp; omega), rfl⟩
   ·refine sd_run 8 ?_;simp only [bd] at hc1 hc12 hc19;refine zY (.bool false) hX [] ⟨(by congr 1; unfold plainB; rw [Bool.eq_iff_iff]; simp; omega), rfl⟩
def sp58 : List Value → Option Value
 | [.int .i64 op] => some (.bool (plainB op))
 | _ => none
noncomputable def T14 : Tab := { T13 with orc := addOrc T13.orc 58 sp58 }
theorem ok_T14 [Bs] : ProgOk Try.prog T14 := ok_T13.know 58 sp58 fun args v h => by
 unfold sp58 at h;split at h
 ·rename_i op; cases h; exact ⟨rfl, rfl, SCall.data (plainB2_s op) rfl rfl⟩
 ·cases h
instance : OrcDat T14 := orcDat_add inferInstance 58 sp58 fun l v h => by
 unfold sp58 at h;split at h
 ·cases h; exact ⟨rfl, rfl⟩
 ·cases h
noncomputable def f59b : Code := Try.f59.body.getD .skip
theorem endsB2_s (op : Int)  : SCall Try.prog T14 59 #[jI op] (hq []) fun v h => v = .bool (endsB op) ∧ h = hq [] := by
 refine zS Try.f59 f59b 17 0 fun X hX => ?_
 refine zB 10 5 (decide ((op : Int) ≥ 32)) (fun hc1 => ?_) fun hc1 => ?_
 ·refine zB 4 9 (decide ((op : Int) ≤ 40)) (fun hc2 => ?_) fun hc2 => ?_
  ·refine sd_run 11 ?_;simp only [bd] at hc1 hc2;refine zY (.bool true) hX [] ⟨(by congr 1; unfold endsB; rw [Bool.eq_iff_iff]; simp; omega), rfl⟩
  ·refine zB 3 12 (decide ((op : Int) ≥ 64)) (fun hc3 => ?_) fun hc3 => ?_
   ·refine zB 8 2 (decide ((op : Int) ≤ 69)) (fun hc4 => ?_) fun hc4 => ?_
    ·simp only [bd] at hc1 hc2 hc3 hc4;refine zY (.bool true) hX [] ⟨(by congr 1; unfold endsB; rw [Bool.eq_iff_iff]; simp; omega), rfl⟩
    ·simp only [bd] at hc1 hc2 hc3 hc4;refine zY (.bool false) hX [] ⟨(by congr 1; unfold endsB; rw [Bool.eq_iff_iff]; simp; omega), rfl⟩
   ·refine sd_run 8 ?_;simp only [bd] at hc1 hc2 hc3;refine zY (.bool false) hX [] ⟨(by congr 1; unfold endsB; rw [Bool.eq_iff_iff]; simp; omega), rfl⟩
 ·refine zB 7 12 (decide ((op : Int) ≥ 64)) (fun hc5 => ?_) fun hc5 => ?_
  ·refine zB 8 2 (decide ((op : Int) ≤ 69)) (fun hc6 => ?_) fun hc6 => ?_
   ·simp only [bd] at hc1 hc5 hc6;refine zY (.bool true) hX [] ⟨(by congr 1; unfold endsB; rw [Bool.eq_iff_iff]; simp; omega), rfl⟩
   ·simp only [bd] at hc1 hc5 hc6;refine zY (.bool false) hX [] ⟨(by congr 1; unfold endsB; rw [Bool.eq_iff_iff]; simp; omega), rfl⟩
  ·refine sd_run 8 ?_;simp only [bd] at hc1 hc5;refine zY (.bool false) hX [] ⟨(by congr 1; unfold endsB; rw [Bool.eq_iff_iff]; simp; omega), rfl⟩
def sp59 : List Value → Option Value
 | [.int .i64 op] => some (.bool (endsB op))
 | _ => none
noncomputable def T15 : Tab := { T14 with orc := addOrc T14.orc 59 sp59 }
theorem ok_T15 [Bs] : ProgOk Try.prog T15 := ok_T14.know 59 sp59 fun args v h => by
 unfold sp59 at h;split at h
 ·rename_i op; cases h; exact ⟨rfl, rfl, SCall.data (endsB2_s op) rfl rfl⟩
 ·cases h
instance : OrcDat T15 := orcDat_add inferInstance 59 sp59 fun l v h => by
 unfold sp59 at h;split at h
 ·cases h; exact ⟨rfl, rfl⟩
 ·cases h
theorem known_run : answers (.bool true) (evCall Try.prog T15 200000 9 #[] ⟨.lf, 0⟩) = true := by kernel_rfl
def sp9 : List Value → Option Value
 | [] => some (.bool true)
 | _ => none
noncomputable def T16 : Tab := { T15 with orc := addOrc T15.orc 9 sp9 }
theorem ok_T16 [Bs] : ProgOk Try.prog T16 := ok_T15.know 9 sp9 fun args v h => by
 unfold sp9 at h;split at h
 ·cases h; exact ⟨rfl, rfl, acall_answers known_run⟩
 ·cases h
instance : OrcDat T16 := orcDat_add inferInstance 9 sp9 fun l v h => by
 unfold sp9 at h;split at h
 ·cases h; exact ⟨rfl, rfl⟩
 ·cases h
end Ls
end Go.Proofs.Ytegjicaoemhhlaa
