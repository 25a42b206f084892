/- Chapter 22: values; what gcode tells of a number. -/
import Derived.Test.YtihacfclecanjaaJb
namespace Go.Proofs.Ytihacfclecanjaa
open Go Go.Ev Go.RowKit
set_option linter.unusedVariables false
set_option linter.unusedSimpArgs false
set_option maxRecDepth 100000
namespace Ls
def uC (x : Int) : List Value := [.int .u32 x]
theorem uC_len : ∀ x, (uC x).length = 1 := fun _ => rfl
theorem uC_pl : ∀ x, (uC x).all plain = true := fun _ => rfl
def hhC (x : Int × Int × Int × Int × Int) : List Value := [.int .i64 x.1, .int .i64 x.2.1, .int .i64 x.2.2.1, .int .i64 x.2.2.2.1, .int .u32 x.2.2.2.2]
theorem hhC_pl : ∀ x, (hhC x).all plain = true := fun _ => rfl
structure Sx where
 pc : Int
 fl : Int
 root : Int
 vec : Int
 epc : Int
 cause : Int
 addr : Int
 cnt : Int
 su : Bool
 pg : Bool
 ie : Bool
 es : Bool
 ei : Bool
 ha : Bool
abbrev s1 (b n : Nat) : Value := .slice (some ⟨b, 0, none⟩) n (unk + 1)
abbrev s2 (b n : Nat) : Value := .slice (some ⟨b, 0, none⟩) n (unk + 2)
abbrev slw (pc : Int) (d r : Value) (fl : Int) (su pg ie : Bool) (root vec epc cause addr : Int) (es ei : Bool) (cnt : Int) (ha : Bool) : List Value := [.int .u32 pc, d, r, .int .u32 fl, .bool su, .bool pg, .bool ie, .int .u32 root, .int .u32 vec, .int .u32 epc, .int .u32 cause, .int .u32 addr, .bool es, .bool ei, .int .u64 cnt, .bool ha]
abbrev stq (q : Sx) (pc : Int) (d r : Value) (fl cnt : Int) : Value := .agg #[.int .u32 pc, d, r, .int .u32 fl, .bool q.su, .bool q.pg, .bool q.ie, .int .u32 q.root, .int .u32 q.vec, .int .u32 q.epc, .int .u32 q.cause, .int .u32 q.addr, .bool q.es, .bool q.ei, .int .u64 cnt, .bool q.ha]
abbrev slq (q : Sx) (pc : Int) (d r : Value) (fl cnt : Int) : List Value := [.int .u32 pc, d, r, .int .u32 fl, .bool q.su, .bool q.pg, .bool q.ie, .int .u32 q.root, .int .u32 q.vec, .int .u32 q.epc, .int .u32 q.cause, .int .u32 q.addr, .bool q.es, .bool q.ei, .int .u64 cnt, .bool q.ha]
theorem brn {f : Em} {h : Heap} {c : Nat} {o : Ob} (h1 : h.get c = obRn f o := by kernel_rfl) (h2 : (obRn f o).isSome = true := by kernel_rfl) : Bk f h c o := bk_ren h1 h2
theorem cvo {l : List (Option Nat)} {k k1 h : Heap} {c : Nat} {o : Ob} (h1 : (c.blt h.n && l.all (fun x => match x with | some d => !d.beq c | none => true)) = true := by kernel_rfl) (h2 : h.get c = some o := by kernel_rfl) : CovAt (emOf l) k k1 h c o := cov_old h1 h2
theorem bd : (∀ (p : Prop) [Decidable p], (decide p = true) = p) ∧ (∀ (p : Prop) [Decidable p], (decide p = false) = ¬ p) ∧ (∀ a b : Int, ((a == b) = true) = (a = b)) ∧ (∀ a b : Int, ((a == b) = false) = ¬ a = b) ∧ (∀ a b : Int, ((a != b) = true) = ¬ a = b) ∧ (∀ a b : Int, ((a != b) = false) = (a = b)) ∧ (∀ a b : Int, (a > b) = (b < a)) ∧ (∀ a b : Int, (a ≥ b) = (b ≤ a)) ∧ (∀ a b : Int, (¬ a ≤ b) = (b < a)) ∧ (∀ a b : Int, (¬ a < b) = (b ≤ a)) ∧ (∀ b : Bool, (¬ b = true) = (b = false)) ∧ (∀ b : Bool, (¬ b = false) = (b = true)) ∧ (∀ b : Bool, ((!b) = true) = (b = false)) ∧ (∀ b : Bool, ((!b) = false) = (b = true)) := by
 refine ⟨fun p _ => by simp, fun p _ => by simp, fun a b => by simp, fun a b => by simp, fun a b => by simp, fun a b => by simp, fun a b => rfl, fun a b => rfl, fun a b => by simp, fun a b => by simp, fun b => by simp, fun b => by simp, fun b => by simp, fun b => by simp⟩
section
variable {P : Program} {T : Tab} {X : Cx} {Q : Xt → St → Prop} {c : Cf}
theorem sdT (t : Nat) (p : Prop) [Decidable p] (h : p) (hr : c.s.tm.get t = some (.bool (decide p))) (hk : SD P T X Q (c.see t (.bool true))) : SD P T X Q c := sd_see t _ (see_bool hr (decide_eq_true h)) hk
theorem sdF (t : Nat) (p : Prop) [Decidable p] (h : ¬ p) (hr : c.s.tm.get t = some (.bool (decide p))) (hk : SD P T X Q (c.see t (.bool false))) : SD P T X Q c := sd_see t _ (see_bool hr (decide_eq_false h)) hk
theorem sdE (t : Nat) (x y : Int) (h : x = y) (hr : c.s.tm.get t = some (.bool (x == y))) (hk : SD P T X Q (c.see t (.bool true))) : SD P T X Q c := sd_see t _ (see_bool hr (beq_iff_eq.2 h)) hk
theorem sdN (t : Nat) (x y : Int) (h : x ≠ y) (hr : c.s.tm.get t = some (.bool (x == y))) (hk : SD P T X Q (c.see t (.bool false))) : SD P T X Q c := sd_see t _ (see_bool hr (beq_eq_false_iff_ne.2 h)) hk
theorem sdP (t : Nat) (x y : Int) (h : x ≠ y) (hr : c.s.tm.get t = some (.bool (x != y))) (hk : SD P T X Q (c.see t (.bool true))) : SD P T X Q c := sd_see t _ (see_bool hr (bne_iff_ne.2 h)) hk
theorem sdZ {rs : Array ResultVar} {R : Value → Heap → Prop} (v : Value) {n0 : Nat} (h0 : X.h0.n = n0) (w : Value) (obs : List (Option Ob)) (l : List (Option Nat)) (hb : Blks (emOf l) c.s.H obs l) (hr : R w (hq obs)) (he : atEnd c = true := by kernel_rfl) (hp : rs.toList.all (presR c.s.tm) = true := by kernel_rfl) (hv : aresults T c.s.tm c.s.H rs = some v := by kernel_rfl) (hl : subG n0 c.s.H obs 0 obs l [] = true := by kernel_rfl) (hle : n0.ble l.length = true := by kernel_rfl) (hw : rn2 (emOf l) w = some v := by kernel_rfl) : SD P T X (QF T X rs R) c := sd_end v h0 he hp hv w (hq obs) (emOf l) (sub_of hl hle hb) (rn2_sound _ _ hw) hr
theorem sdY {rs : Array ResultVar} {R : Value → Heap → Prop} (v : Value) {n0 : Nat} (h0 : X.h0.n = n0) (obs : List (Option Ob)) (l : List (Option Nat)) (hb : Blks (emOf l) c.s.H obs l) (hr : R v (hq obs)) (he : atEnd c = true := by kernel_rfl) (hp : rs.toList.all (presR c.s.tm) = true := by kernel_rfl) (hv : aresults T c.s.tm c.s.H rs = some v := by kernel_rfl) (hl : subG n0 c.s.H obs 0 obs l [] = true := by kernel_rfl) (hle : n0.ble l.length = true := by kernel_rfl) (hw : rn2 (emOf l) v = some v := by kernel_rfl) : SD P T X (QF T X rs R) c := sdZ v h0 v obs l hb hr he hp hv hl hle hw
theorem sdC (t : Nat) (f : FuncId) (args : Array Value) {R : Value → Heap → Prop} {args0 : Array Value} {obs : List (Option Ob)} (hc : SCall P T f args0 (hq obs) R) (l : List (Option Nat)) (hb : Blks (emOf l) c.s.H obs l) (hk : HN (emOf l) (hq obs) c.s.H → ∀ v k1, R v k1 → ∃ w h1, Glue (emOf l) (hq obs) k1 c.s.H h1 ∧ RN ((emOf l).ext (hq obs).n c.s.H.n) v w ∧ SD P T X Q (c.put t w h1)) (ho : okOp c t = true := by kernel_rfl) (hs : strictC c = true := by kernel_rfl) (ha : aop P T c.s.tm (opC c) c.s.H = some (.enter f args, c.s.H) := by kernel_rfl) (hl : subGo 0 c.s.H.n 0 l [] = true := by kernel_rfl) (hr : rnG (rn2 (emOf l)) args0.toList = some args.toList := by kernel_rfl) : SD P T X Q c := sd_call t f args hc (emOf l) ho hs ha (hn_of 0 hl hb) (rnG_sound rn2_sound _ _ hr) (hk (hn_of 0 hl hb))
theorem mkG {g : Em} {k k1 : Heap} {t : Nat} {v : Value} (w : Value) (l : List (Option Ob)) (hc : Covs g k k1 c.s.H 0 l) (hs : SD P T X Q (c.put t w (hq l))) (hn : l.length.beq (c.s.H.n + (k1.n - k.n)) = true := by kernel_rfl) (hl : k.n.ble k1.n = true := by kernel_rfl) (hr : rn2 (g.ext k.n c.s.H.n) v = some w := by kernel_rfl) : ∃ w h1, Glue g k k1 c.s.H h1 ∧ RN (g.ext k.n c.s.H.n) v w ∧ SD P T X Q (c.put t w h1) := ⟨w, hq l, glue_of hn hl hc, rn2_sound _ _ hr, hs⟩
theorem sdCp (t : Nat) (f : FuncId) (args : Array Value) {R : Value → Heap → Prop} {args0 : Array Value} {obs : List (Option Ob)} (hc : SCall P T f args0 (hq obs) R) (l : List (Option Nat)) (hb : Blks (emOf l) c.s.H obs l) (hk : ∀ v k1, R v k1 → k1 = hq obs ∧ ∃ w, rn2 ((emOf l).ext obs.length c.s.H.n) v = some w ∧ SD P T X Q (c.put t w c.s.H)) (ho : okOp c t = true := by kernel_rfl) (hs : strictC c = true := by kernel_rfl) (ha : aop P T c.s.tm (opC c) c.s.H = some (.enter f args, c.s.H) := by kernel_rfl) (hl : subGo 0 c.s.H.n 0 l [] = true := by kernel_rfl) (hr : rnG (rn2 (emOf l)) args0.toList = some args.toList := by kernel_rfl) : SD P T X Q c := sd_callp t f args hc l ho hs ha (hn_of 0 hl hb) hr hk
theorem sdQ (t : Nat) (x y : Int) (h : x = y) (hr : c.s.tm.get t = some (.bool (x != y))) (hk : SD P T X Q (c.see t (.bool false))) : SD P T X Q c := sd_see t _ (see_bool hr (bne_eq_false_iff_eq.2 h)) hk
end
theorem cvs {f : Em} {k k1 h : Heap} {c : Nat} {o : Ob} (b : Nat) (hf : HN f k h) (hle : k.n.ble k1.n = true := by kernel_rfl) (h0 : isNm f b c = true := by kernel_rfl) (h1 : k1.get b = k.get b := by kernel_rfl) (hs : (k.get b).isSome = true := by kernel_rfl) (h2 : h.get c = some o := by kernel_rfl) : CovAt f k k1 h c o := cov_same b hf hle h0 h1 hs h2
abbrev i1_ : List (Option Nat) := [some 0]
abbrev e1_ : Em := emOf i1_
abbrev i2_ : List (Option Nat) := [some 0, some 1]
abbrev e2_ : Em := emOf i2_
abbrev i3_ : List (Option Nat) := [some 0, some 1, some 2]
abbrev i4_ : List (Option Nat) := [some 0, some 1, some 2, some 3]
abbrev e4_ : Em := emOf i4_
abbrev i5_ : List (Option Nat) := [some 0, some 1, some 2, some 3, some 4]
abbrev i6_ : List (Option Nat) := [some 0, some 1, some 2, some 3, some 4, some 5]
abbrev e6_ : Em := emOf i6_
abbrev uCo (l : List (Int)) (ro : Bool) : Option Ob := some ⟨tab uC l, 22, ro⟩
theorem uC_b {f : Em} {h : Heap} {c e : Nat} {l : List (Int)} {ro : Bool} (h1 : h.get c = some ⟨tab uC l, e, ro⟩ := by kernel_rfl) : Bk f h c ⟨tab uC l, e, ro⟩ := bk_flat _ h1 (tab_plain uC_pl _) rfl
theorem uC_c {f : Em} {k k1 h : Heap} {c e : Nat} {l : List (Int)} {ro : Bool} (b : Nat) (h0 : (b.blt k1.n && isNm (f.ext k.n h.n) b c) = true := by kernel_rfl) (h1 : k1.get b = some ⟨tab uC l, e, ro⟩ := by kernel_rfl) : CovAt f k k1 h c ⟨tab uC l, e, ro⟩ := cov_flat b h0 h1 (tab_plain uC_pl _)
abbrev hhCo (l : List (Int × Int × Int × Int × Int)) (ro : Bool) : Option Ob := some ⟨tab hhC l, 108, ro⟩
theorem hhC_b {f : Em} {h : Heap} {c e : Nat} {l : List (Int × Int × Int × Int × Int)} {ro : Bool} (h1 : h.get c = some ⟨tab hhC l, e, ro⟩ := by kernel_rfl) : Bk f h c ⟨tab hhC l, e, ro⟩ := bk_flat _ h1 (tab_plain hhC_pl _) rfl
abbrev II := Int × Int × Int × Int × Int
def valB (n k : Int) : Bool := decide (0 ≤ n) && decide (n < k)
def madeB (nd nr : Int) (x : II) (k : Int) : Bool :=
 decide (x.2.1 = k) && (if x.1 = 0 then decide (x.2.2.1 = 0) && decide (x.2.2.2.1 = 0)
  else if x.1 = 1 then (decide (x.2.2.1 = 0) && decide (x.2.2.2.1 = 0)) && decide (x.2.2.2.2 < nd)
  else if x.1 = 2 then (decide (x.2.2.1 = 0) && decide (x.2.2.2.1 = 0)) && decide (x.2.2.2.2 < nr)
  else if x.1 = 3 then (valB x.2.2.1 k && valB x.2.2.2.1 k) && (decide (16 ≤ x.2.2.2.2) && decide (x.2.2.2.2 ≤ 23))
  else if x.1 = 4 then (valB x.2.2.1 k && valB x.2.2.2.1 k) && ((decide (16 ≤ x.2.2.2.2) && decide (x.2.2.2.2 ≤ 23)) || decide (x.2.2.2.2 = 25))
  else false)
structure RightP (c : List II) (od rd : List Int) (nd nr hd hr fl tg br ct vs : Int) : Prop where
 vs_ : vs = c.length
 len : c.length ≤ 64
 nd_ : 0 ≤ nd ∧ nd ≤ 16
 nr_ : 0 ≤ nr ∧ nr ≤ 16
 hd_ : 0 ≤ hd ∧ hd ≤ 16
 hr_ : 0 ≤ hr ∧ hr ≤ 16
 ct_ : 1 ≤ ct ∧ ct ≤ 8
 code : ∀ (k : Nat) (x : II), c[k]? = some x → madeB nd nr x k = true
 od_ : ∀ (k : Nat) (x : Int), od[k]? = some x → valB x vs = true
 rd_ : ∀ (k : Nat) (x : Int), rd[k]? = some x → valB x vs = true
 fl_ : fl = -1 ∨ valB fl vs = true
 tg_ : tg = -1 ∨ valB tg vs = true
 br_ : br = 0 ∨ (33 ≤ br ∧ br ≤ 37 ∧ tg = -1)
noncomputable instance (c : List II) (od rd : List Int) (nd nr hd hr fl tg br ct vs : Int) : Decidable (RightP c od rd nd nr hd hr fl tg br ct vs) := Classical.propDecidable _
noncomputable def f99b : Code := Try.f99.body.getD .skip
theorem f99_body : Try.f99.body = some f99b := by kernel_rfl
theorem f99_fn : T3.fn 99 = some Try.f99 := by kernel_rfl
theorem value_s (a k : Int)  : SCall Try.prog T3 99 #[.int .i64 a, .int .i64 k] (hq []) fun v h => v = .bool (valB a k) ∧ h = hq [] := by
 refine scall_sd 12 _ 0 kr f99_fn f99_body rfl rfl rfl fun X hX => ?_
 refine sd_run 10 ?_
 rcases Bool.eq_false_or_eq_true (decide ((a : Int) ≥ 0)) with hc1 | hc1
 ·skip
  refine sd_see 7 (.bool true) (see_bool kr hc1) (sd_run 8 ?_)
  simp only [bd] at hc1
  refine sdY (.bool (decide ((a : Int) < k))) hX [] [] True.intro ⟨(by unfold valB; congr 1; simp [*]), rfl⟩
 ·skip
  refine sd_see 7 (.bool false) (see_bool kr hc1) (sd_run 8 ?_)
  simp only [bd] at hc1
  refine sdY (.bool false) hX [] [] True.intro ⟨(by unfold valB; congr 1; simp; omega), rfl⟩
def sp99 : List Value → Option Value
 | [.int .i64 a, .int .i64 k] => some (.bool (valB a k))
 | _ => none
noncomputable def T4 : Tab := { T3 with orc := addOrc T3.orc 99 sp99 }
theorem ok_T4 [Bs] : ProgOk Try.prog T4 := ok_T3.know 99 sp99 fun args v h => by
 unfold sp99 at h
 split at h
 ·rename_i a k; cases h; exact ⟨rfl, rfl, SCall.data (value_s a k) rfl rfl⟩
 ·cases h
instance : OrcDat T4 := orcDat_add inferInstance 99 sp99 fun l v h => by
 unfold sp99 at h
 split at h
 ·cases h; exact ⟨rfl, rfl⟩
 ·cases h
def namedB (op : Int) : Bool := (decide (0 ≤ op) && decide (op ≤ 8)) || (decide (16 ≤ op) && decide (op ≤ 25)) || (decide (32 ≤ op) && decide (op ≤ 40)) || (decide (48 ≤ op) && decide (op ≤ 53)) || (decide (64 ≤ op) && decide (op ≤ 69))
def sizeZ (op : Int) : Int := if op = 1 ∨ (32 ≤ op ∧ op ≤ 38) ∨ op = 66 ∨ op = 67 then 2 else if op = 2 then 5 else if namedB op = true then 1 else 0
def rightI (op n : Int) : Bool := decide (sizeZ op ≠ 0) && ((!decide (sizeZ op = 1) || decide (n = 0)) && (!decide (sizeZ op = 2) || decide (n ≤ 255)))
def endsB (op : Int) : Bool := (decide (32 ≤ op) && decide (op ≤ 40)) || (decide (64 ≤ op) && decide (op ≤ 69))
def plainB (op : Int) : Bool := (decide (0 ≤ op) && decide (op ≤ 8)) || (decide (32 ≤ op) && decide (op ≤ 40)) || (decide (16 ≤ op) && (decide (op ≤ 25) && decide (op ≠ 24)))
def signZ (n : Int) : Int := IntKind.u32.wrap (IntKind.i32.wrap (IntKind.i8.wrap n))
theorem named1 (op : Int) : (op < 0 ∨ (9 ≤ op ∧ op ≤ 15) ∨ (26 ≤ op ∧ op ≤ 31) ∨ (41 ≤ op ∧ op ≤ 47) ∨ (54 ≤ op ∧ op ≤ 63) ∨ 70 ≤ op) ∨ op = 0 ∨ op = 1 ∨ op = 2 ∨ op = 3 ∨ op = 4 ∨ op = 5 ∨ op = 6 ∨ op = 7 ∨ op = 8 ∨ op = 16 ∨ op = 17 ∨ op = 18 ∨ op = 19 ∨ op = 20 ∨ op = 21 ∨ op = 22 ∨ op = 23 ∨ op = 24 ∨ op = 25 ∨ op = 32 ∨ op = 33 ∨ op = 34 ∨ op = 35 ∨ op = 36 ∨ op = 37 ∨ op = 38 ∨ op = 39 ∨ op = 40 ∨ op = 48 ∨ op = 49 ∨ op = 50 ∨ op = 51 ∨ op = 52 ∨ op = 53 ∨ op = 64 ∨ op = 65 ∨ op = 66 ∨ op = 67 ∨ op = 68 ∨ op = 69 := by omega
theorem named_cases (op : Int) : op < 0 ∨ (9 ≤ op ∧ op ≤ 15) ∨ (26 ≤ op ∧ op ≤ 31) ∨ (41 ≤ op ∧ op ≤ 47) ∨ (54 ≤ op ∧ op ≤ 63) ∨ 70 ≤ op ∨ op = 0 ∨ op = 1 ∨ op = 2 ∨ op = 3 ∨ op = 4 ∨ op = 5 ∨ op = 6 ∨ op = 7 ∨ op = 8 ∨ op = 16 ∨ op = 17 ∨ op = 18 ∨ op = 19 ∨ op = 20 ∨ op = 21 ∨ op = 22 ∨ op = 23 ∨ op = 24 ∨ op = 25 ∨ op = 32 ∨ op = 33 ∨ op = 34 ∨ op = 35 ∨ op = 36 ∨ op = 37 ∨ op = 38 ∨ op = 39 ∨ op = 40 ∨ op = 48 ∨ op = 49 ∨ op = 50 ∨ op = 51 ∨ op = 52 ∨ op = 53 ∨ op = 64 ∨ op = 65 ∨ op = 66 ∨ op = 67 ∨ op = 68 ∨ op = 69 := by omega
theorem size_gap {op : Int} (h : op < 0 ∨ (9 ≤ op ∧ op ≤ 15) ∨ (26 ≤ op ∧ op ≤ 31) ∨ (41 ≤ op ∧ op ≤ 47) ∨ (54 ≤ op ∧ op ≤ 63) ∨ 70 ≤ op) : sizeZ op = 0 := by
 unfold sizeZ namedB
 rw [if_neg (by omega), if_neg (by omega), if_neg (by simp; omega)]
noncomputable def f29b : Code := Try.f29.body.getD .skip
theorem f29_body : Try.f29.body = some f29b := by kernel_rfl
theorem f29_fn : T4.fn 29 = some Try.f29 := by kernel_rfl
theorem lit29 {x : Int} (n : Nat) (v : Value) (he : atEnd (goS Try.prog T4 n ⟨20, .code f29b, [], ⟨initTm 0 #[.int .i64 x], hq []⟩⟩) = true := by kernel_rfl) (hp : Try.f29.results.toList.all (presR (goS Try.prog T4 n ⟨20, .code f29b, [], ⟨initTm 0 #[.int .i64 x], hq []⟩⟩).s.tm) = true := by kernel_rfl) (hv : aresults T4 (goS Try.prog T4 n ⟨20, .code f29b, [], ⟨initTm 0 #[.int .i64 x], hq []⟩⟩).s.tm (goS Try.prog T4 n ⟨20, .code f29b, [], ⟨initTm 0 #[.int .i64 x], hq []⟩⟩).s.H Try.f29.results = some v := by kernel_rfl) (hl : subG 0 (goS Try.prog T4 n ⟨20, .code f29b, [], ⟨initTm 0 #[.int .i64 x], hq []⟩⟩).s.H [] 0 [] [] [] = true := by kernel_rfl) (hw : rn2 (emOf []) v = some v := by kernel_rfl) (ho : T4.orc 29 #[.int .i64 x].toList = none := by kernel_rfl) : SCall Try.prog T4 29 #[.int .i64 x] (hq []) fun r h => r = v ∧ h = hq [] := by
 refine scall_sd 20 _ 0 ho f29_fn f29_body rfl rfl rfl fun X hX => ?_
 exact sd_run n (sdY v hX [] [] True.intro ⟨rfl, rfl⟩ he hp hv hl rfl hw)
set_option maxHeartbeats 1000000 in
theorem size_s (op : Int)  : SCall Try.prog T4 29 #[.int .i64 op] (hq []) fun v h => v = .int .i64 (sizeZ op) ∧ h = hq [] := by
 rcases named1 op with h | rfl | rfl | rfl | rfl | rfl | rfl | rfl | rfl | rfl | rfl | rfl | rfl | rfl | rfl | rfl | rfl | rfl | rfl | rfl | rfl | rfl | rfl | rfl | rfl | rfl | rfl | rfl | rfl | rfl | rfl | rfl | rfl | rfl | rfl | rfl | rfl | rfl | rfl | rfl | rfl
 ·skip
  refine scall_sd 20 _ 0 kr f29_fn f29_body rfl rfl rfl fun X hX => ?_
  refine sd_run 16 (sdN 5 (op : Int) 1 (by omega) kr (sd_run 7 (sdN 6 (op : Int) 32 (by omega) kr (sd_run 7 (sdN 7 (op : Int) 33 (by omega) kr (sd_run 7 (sdN 8 (op : Int) 34 (by omega) kr ?_)))))))
  refine sd_run 7 (sdN 9 (op : Int) 35 (by omega) kr (sd_run 7 (sdN 10 (op : Int) 36 (by omega) kr (sd_run 7 (sdN 11 (op : Int) 37 (by omega) kr (sd_run 7 (sdN 12 (op : Int) 38 (by omega) kr ?_)))))))
  refine sd_run 7 (sdN 13 (op : Int) 66 (by omega) kr (sd_run 6 (sdN 14 (op : Int) 67 (by omega) kr (sd_run 7 (sdN 16 (op : Int) 2 (by omega) kr (sd_run 27 (sdN 5 (op : Int) 0 (by omega) kr ?_)))))))
  refine sd_run 7 (sdN 7 (op : Int) 1 (by omega) kr (sd_run 7 (sdN 9 (op : Int) 2 (by omega) kr (sd_run 7 (sdN 11 (op : Int) 3 (by omega) kr (sd_run 7 (sdN 13 (op : Int) 4 (by omega) kr ?_)))))))
  refine sd_run 7 (sdN 15 (op : Int) 5 (by omega) kr (sd_run 7 (sdN 17 (op : Int) 6 (by omega) kr (sd_run 7 (sdN 19 (op : Int) 7 (by omega) kr (sd_run 7 (sdN 21 (op : Int) 8 (by omega) kr ?_)))))))
  refine sd_run 7 (sdN 23 (op : Int) 32 (by omega) kr (sd_run 7 (sdN 25 (op : Int) 33 (by omega) kr (sd_run 7 (sdN 27 (op : Int) 34 (by omega) kr (sd_run 7 (sdN 29 (op : Int) 35 (by omega) kr ?_)))))))
  refine sd_run 7 (sdN 31 (op : Int) 36 (by omega) kr (sd_run 7 (sdN 33 (op : Int) 37 (by omega) kr (sd_run 7 (sdN 35 (op : Int) 38 (by omega) kr (sd_run 7 (sdN 37 (op : Int) 39 (by omega) kr ?_)))))))
  refine sd_run 7 (sdN 39 (op : Int) 40 (by omega) kr (sd_run 26 (sdN 5 (op : Int) 16 (by omega) kr (sd_run 7 (sdN 7 (op : Int) 17 (by omega) kr (sd_run 7 (sdN 9 (op : Int) 18 (by omega) kr ?_)))))))
  refine sd_run 7 (sdN 11 (op : Int) 19 (by omega) kr (sd_run 7 (sdN 13 (op : Int) 20 (by omega) kr (sd_run 7 (sdN 15 (op : Int) 21 (by omega) kr (sd_run 7 (sdN 17 (op : Int) 22 (by omega) kr ?_)))))))
  refine sd_run 7 (sdN 19 (op : Int) 23 (by omega) kr (sd_run 7 (sdN 21 (op : Int) 24 (by omega) kr (sd_run 7 (sdN 23 (op : Int) 25 (by omega) kr (sd_run 7 (sdN 25 (op : Int) 48 (by omega) kr ?_)))))))
  refine sd_run 7 (sdN 27 (op : Int) 49 (by omega) kr (sd_run 7 (sdN 29 (op : Int) 50 (by omega) kr (sd_run 7 (sdN 31 (op : Int) 51 (by omega) kr (sd_run 7 (sdN 33 (op : Int) 52 (by omega) kr ?_)))))))
  refine sd_run 7 (sdN 35 (op : Int) 53 (by omega) kr (sd_run 7 (sdN 37 (op : Int) 64 (by omega) kr (sd_run 7 (sdN 39 (op : Int) 65 (by omega) kr (sd_run 7 (sdN 41 (op : Int) 66 (by omega) kr ?_)))))))
  refine sd_run 7 (sdN 43 (op : Int) 67 (by omega) kr (sd_run 7 (sdN 45 (op : Int) 68 (by omega) kr (sd_run 7 (sdN 47 (op : Int) 69 (by omega) kr (sd_run 30 ?_))))))
  refine sdY (.int .i64 0) hX [] [] True.intro ⟨(congrArg _ (size_gap (by omega)).symm), rfl⟩
 ·exact lit29 137 (.int .i64 1)
 ·exact lit29 31 (.int .i64 2)
 ·exact lit29 97 (.int .i64 5)
 ·exact lit29 158 (.int .i64 1)
 ·exact lit29 165 (.int .i64 1)
 ·exact lit29 172 (.int .i64 1)
 ·exact lit29 179 (.int .i64 1)
 ·exact lit29 186 (.int .i64 1)
 ·exact lit29 193 (.int .i64 1)
 ·exact lit29 287 (.int .i64 1)
 ·exact lit29 294 (.int .i64 1)
 ·exact lit29 301 (.int .i64 1)
 ·exact lit29 308 (.int .i64 1)
 ·exact lit29 315 (.int .i64 1)
 ·exact lit29 322 (.int .i64 1)
 ·exact lit29 329 (.int .i64 1)
 ·exact lit29 336 (.int .i64 1)
 ·exact lit29 343 (.int .i64 1)
 ·exact lit29 350 (.int .i64 1)
 ·exact lit29 38 (.int .i64 2)
 ·exact lit29 45 (.int .i64 2)
 ·exact lit29 52 (.int .i64 2)
 ·exact lit29 59 (.int .i64 2)
 ·exact lit29 66 (.int .i64 2)
 ·exact lit29 73 (.int .i64 2)
 ·exact lit29 80 (.int .i64 2)
 ·exact lit29 249 (.int .i64 1)
 ·exact lit29 256 (.int .i64 1)
 ·exact lit29 357 (.int .i64 1)
 ·exact lit29 364 (.int .i64 1)
 ·exact lit29 371 (.int .i64 1)
 ·exact lit29 378 (.int .i64 1)
 ·exact lit29 385 (.int .i64 1)
 ·exact lit29 392 (.int .i64 1)
 ·exact lit29 399 (.int .i64 1)
 ·exact lit29 406 (.int .i64 1)
 ·exact lit29 87 (.int .i64 2)
 ·exact lit29 90 (.int .i64 2)
 ·exact lit29 427 (.int .i64 1)
 ·exact lit29 434 (.int .i64 1)
def sp29 : List Value → Option Value
 | [.int .i64 op] => some (.int .i64 (sizeZ op))
 | _ => none
noncomputable def T5 : Tab := { T4 with orc := addOrc T4.orc 29 sp29 }
theorem ok_T5 [Bs] : ProgOk Try.prog T5 := ok_T4.know 29 sp29 fun args v h => by
 unfold sp29 at h
 split at h
 ·rename_i op; cases h; exact ⟨rfl, rfl, SCall.data (size_s op) rfl rfl⟩
 ·cases h
instance : OrcDat T5 := orcDat_add inferInstance 29 sp29 fun l v h => by
 unfold sp29 at h
 split at h
 ·cases h; exact ⟨rfl, rfl⟩
 ·cases h
noncomputable def f26b : Code := Try.f26.body.getD .skip
theorem f26_body : Try.f26.body = some f26b := by kernel_rfl
theorem f26_fn : T5.fn 26 = some Try.f26 := by kernel_rfl
theorem rightI_s (op n : Int)  : SCall Try.prog T5 26 #[.agg #[.int .i64 op, .int .u32 n]] (hq []) fun v h => v = .bool (rightI op n) ∧ h = hq [] := by
 refine scall_sd 18 _ 0 kr f26_fn f26_body rfl rfl rfl fun X hX => ?_
 refine sd_run 11 (sd_ask 5 (.int .i64 (sizeZ op)) 29 #[.int .i64 op] kr kr kr rfl (sd_run 9 ?_))
 rcases Bool.eq_false_or_eq_true (((sizeZ op) : Int) == 0) with hc1 | hc1
 ·skip
  refine sd_see 6 (.bool true) (see_bool kr hc1) (sd_run 9 ?_)
  simp only [bd] at hc1
  refine sdY (.bool false) hX [] [] True.intro ⟨(by congr 1; unfold rightI; simp [*]; try (rw [Bool.eq_iff_iff]; simp)), rfl⟩
 ·skip
  refine sd_see 6 (.bool false) (see_bool kr hc1) (sd_run 7 ?_)
  rcases Bool.eq_false_or_eq_true (((sizeZ op) : Int) == 1) with hc2 | hc2
  ·skip
   refine sd_see 8 (.bool true) (see_bool kr hc2) (sd_run 12 ?_)
   simp only [bd] at hc1 hc2
   refine sdY (.bool ((n : Int) == 0)) hX [] [] True.intro ⟨(by congr 1; unfold rightI; simp [*]; try (rw [Bool.eq_iff_iff]; simp)), rfl⟩
  ·skip
   refine sd_see 8 (.bool false) (see_bool kr hc2) (sd_run 7 ?_)
   rcases Bool.eq_false_or_eq_true (((sizeZ op) : Int) == 2) with hc3 | hc3
   ·skip
    refine sd_see 13 (.bool true) (see_bool kr hc3) (sd_run 12 ?_)
    simp only [bd] at hc1 hc2 hc3
    refine sdY (.bool (decide ((n : Int) ≤ 255))) hX [] [] True.intro ⟨(by congr 1; unfold rightI; simp [*]; try (rw [Bool.eq_iff_iff]; simp)), rfl⟩
   ·skip
    refine sd_see 13 (.bool false) (see_bool kr hc3) (sd_run 10 ?_)
    simp only [bd] at hc1 hc2 hc3
    refine sdY (.bool true) hX [] [] True.intro ⟨(by congr 1; unfold rightI; simp [*]; try (rw [Bool.eq_iff_iff]; simp)), rfl⟩
def sp26 : List Value → Option Value
 | [.agg ⟨[.int .i64 op, .int .u32 n]⟩] => some (.bool (rightI op n))
 | _ => none
noncomputable def T6 : Tab := { T5 with orc := addOrc T5.orc 26 sp26 }
theorem ok_T6 [Bs] : ProgOk Try.prog T6 := ok_T5.know 26 sp26 fun args v h => by
 unfold sp26 at h
 split at h
 ·rename_i op n; cases h; exact ⟨rfl, rfl, SCall.data (rightI_s op n) rfl rfl⟩
 ·cases h
instance : OrcDat T6 := orcDat_add inferInstance 26 sp26 fun l v h => by
 unfold sp26 at h
 split at h
 ·cases h; exact ⟨rfl, rfl⟩
 ·cases h
noncomputable def f27b : Code := Try.f27.body.getD .skip
theorem f27_body : Try.f27.body = some f27b := by kernel_rfl
theorem f27_fn : T6.fn 27 = some Try.f27 := by kernel_rfl
theorem plainB_s (op : Int)  : SCall Try.prog T6 27 #[.int .i64 op] (hq []) fun v h => v = .bool (plainB op) ∧ h = hq [] := by
 refine scall_sd 26 _ 0 kr f27_fn f27_body rfl rfl rfl fun X hX => ?_
 refine sd_run 13 ?_
 rcases Bool.eq_false_or_eq_true (decide ((op : Int) ≥ 0)) with hc1 | hc1
 ·skip
  refine sd_see 6 (.bool true) (see_bool kr hc1) (sd_run 6 ?_)
  rcases Bool.eq_false_or_eq_true (decide ((op : Int) ≤ 8)) with hc2 | hc2
  ·skip
   refine sd_see 3 (.bool true) (see_bool kr hc2) (sd_run 12 ?_)
   simp only [bd] at hc1 hc2
   refine sdY (.bool true) hX [] [] True.intro ⟨(by congr 1; unfold plainB; rw [Bool.eq_iff_iff]; simp; omega), rfl⟩
  ·skip
   refine sd_see 3 (.bool false) (see_bool kr hc2) (sd_run 5 ?_)
   rcases Bool.eq_false_or_eq_true (decide ((op : Int) ≥ 32)) with hc3 | hc3
   ·skip
    refine sd_see 12 (.bool true) (see_bool kr hc3) (sd_run 6 ?_)
    rcases Bool.eq_false_or_eq_true (decide ((op : Int) ≤ 40)) with hc4 | hc4
    ·skip
     refine sd_see 3 (.bool true) (see_bool kr hc4) (sd_run 9 ?_)
     simp only [bd] at hc1 hc2 hc3 hc4
     refine sdY (.bool true) hX [] [] True.intro ⟨(by congr 1; unfold plainB; rw [Bool.eq_iff_iff]; simp; omega), rfl⟩
    ·skip
     refine sd_see 3 (.bool false) (see_bool kr hc4) (sd_run 9 ?_)
     rcases Bool.eq_false_or_eq_true (decide ((op : Int) ≥ 16)) with hc5 | hc5
     ·skip
      refine sd_see 18 (.bool true) (see_bool kr hc5) (sd_run 4 ?_)
      rcases Bool.eq_false_or_eq_true (decide ((op : Int) ≤ 25)) with hc6 | hc6
      ·skip
       refine sd_see 22 (.bool true) (see_bool kr hc6) (sd_run 7 ?_)
       rcases Bool.eq_false_or_eq_true ((op : Int) != 24) with hc7 | hc7
       ·skip
        refine sd_see 2 (.bool true) (see_bool kr hc7) ?_
        simp only [bd] at hc1 hc2 hc3 hc4 hc5 hc6 hc7
        refine sdY (.bool true) hX [] [] True.intro ⟨(by congr 1; unfold plainB; rw [Bool.eq_iff_iff]; simp; omega), rfl⟩
       ·skip
        refine sd_see 2 (.bool false) (see_bool kr hc7) ?_
        simp only [bd] at hc1 hc2 hc3 hc4 hc5 hc6 hc7
        refine sdY (.bool false) hX [] [] True.intro ⟨(by congr 1; unfold plainB; rw [Bool.eq_iff_iff]; simp; omega), rfl⟩
      ·skip
       refine sd_see 22 (.bool false) (see_bool kr hc6) (sd_run 7 ?_)
       simp only [bd] at hc1 hc2 hc3 hc4 hc5 hc6
       refine sdY (.bool false) hX [] [] True.intro ⟨(by congr 1; unfold plainB; rw [Bool.eq_iff_iff]; simp; omega), rfl⟩
     ·skip
      refine sd_see 18 (.bool false) (see_bool kr hc5) (sd_run 11 ?_)
      simp only [bd] at hc1 hc2 hc3 hc4 hc5
      refine sdY (.bool false) hX [] [] True.intro ⟨(by congr 1; unfold plainB; rw [Bool.eq_iff_iff]; simp; omega), rfl⟩
   ·skip
    refine sd_see 12 (.bool false) (see_bool kr hc3) (sd_run 15 ?_)
    rcases Bool.eq_false_or_eq_true (decide ((op : Int) ≥ 16)) with hc8 | hc8
    ·skip
     refine sd_see 18 (.bool true) (see_bool kr hc8) (sd_run 4 ?_)
     rcases Bool.eq_false_or_eq_true (decide ((op : Int) ≤ 25)) with hc9 | hc9
     ·skip
      refine sd_see 22 (.bool true) (see_bool kr hc9) (sd_run 7 ?_)
      rcases Bool.eq_false_or_eq_true ((op : Int) != 24) with hc10 | hc10
      ·skip
       refine sd_see 2 (.bool true) (see_bool kr hc10) ?_
       simp only [bd] at hc1 hc2 hc3 hc8 hc9 hc10
       refine sdY (.bool true) hX [] [] True.intro ⟨(by congr 1; unfold plainB; rw [Bool.eq_iff_iff]; simp; omega), rfl⟩
      ·skip
       refine sd_see 2 (.bool false) (see_bool kr hc10) ?_
       simp only [bd] at hc1 hc2 hc3 hc8 hc9 hc10
       refine sdY (.bool false) hX [] [] True.intro ⟨(by congr 1; unfold plainB; rw [Bool.eq_iff_iff]; simp; omega), rfl⟩
     ·skip
      refine sd_see 22 (.bool false) (see_bool kr hc9) (sd_run 7 ?_)
      simp only [bd] at hc1 hc2 hc3 hc8 hc9
      refine sdY (.bool false) hX [] [] True.intro ⟨(by congr 1; unfold plainB; rw [Bool.eq_iff_iff]; simp; omega), rfl⟩
    ·skip
     refine sd_see 18 (.bool false) (see_bool kr hc8) (sd_run 11 ?_)
     simp only [bd] at hc1 hc2 hc3 hc8
     refine sdY (.bool false) hX [] [] True.intro ⟨(by congr 1; unfold plainB; rw [Bool.eq_iff_iff]; simp; omega), rfl⟩
 ·skip
  refine sd_see 6 (.bool false) (see_bool kr hc1) (sd_run 11 ?_)
  rcases Bool.eq_false_or_eq_true (decide ((op : Int) ≥ 32)) with hc11 | hc11
  ·skip
   refine sd_see 12 (.bool true) (see_bool kr hc11) (sd_run 6 ?_)
   rcases Bool.eq_false_or_eq_true (decide ((op : Int) ≤ 40)) with hc12 | hc12
   ·skip
    refine sd_see 3 (.bool true) (see_bool kr hc12) (sd_run 9 ?_)
    simp only [bd] at hc1 hc11 hc12
    refine sdY (.bool true) hX [] [] True.intro ⟨(by congr 1; unfold plainB; rw [Bool.eq_iff_iff]; simp; omega), rfl⟩
   ·skip
    refine sd_see 3 (.bool false) (see_bool kr hc12) (sd_run 9 ?_)
    rcases Bool.eq_false_or_eq_true (decide ((op : Int) ≥ 16)) with hc13 | hc13
    ·skip
     refine sd_see 18 (.bool true) (see_bool kr hc13) (sd_run 4 ?_)
     rcases Bool.eq_false_or_eq_true (decide ((op : Int) ≤ 25)) with hc14 | hc14
     ·skip
      refine sd_see 22 (.bool true) (see_bool kr hc14) (sd_run 7 ?_)
      rcases Bool.eq_false_or_eq_true ((op : Int) != 24) with hc15 | hc15
      ·skip
       refine sd_see 2 (.bool true) (see_bool kr hc15) ?_
       simp only [bd] at hc1 hc11 hc12 hc13 hc14 hc15
       refine sdY (.bool true) hX [] [] True.intro ⟨(by congr 1; unfold plainB; rw [Bool.eq_iff_iff]; simp; omega), rfl⟩
      ·skip
       refine sd_see 2 (.bool false) (see_bool kr hc15) ?_
       simp only [bd] at hc1 hc11 hc12 hc13 hc14 hc15
       refine sdY (.bool false) hX [] [] True.intro ⟨(by congr 1; unfold plainB; rw [Bool.eq_iff_iff]; simp; omega), rfl⟩
     ·skip
      refine sd_see 22 (.bool false) (see_bool kr hc14) (sd_run 7 ?_)
      simp only [bd] at hc1 hc11 hc12 hc13 hc14
      refine sdY (.bool false) hX [] [] True.intro ⟨(by congr 1; unfold plainB; rw [Bool.eq_iff_iff]; simp; omega), rfl⟩
    ·skip
     refine sd_see 18 (.bool false) (see_bool kr hc13) (sd_run 11 ?_)
     simp only [bd] at hc1 hc11 hc12 hc13
     refine sdY (.bool false) hX [] [] True.intro ⟨(by congr 1; unfold plainB; rw [Bool.eq_iff_iff]; simp; omega), rfl⟩
  ·skip
   refine sd_see 12 (.bool false) (see_bool kr hc11) (sd_run 15 ?_)
   rcases Bool.eq_false_or_eq_true (decide ((op : Int) ≥ 16)) with hc16 | hc16
   ·skip
    refine sd_see 18 (.bool true) (see_bool kr hc16) (sd_run 4 ?_)
    rcases Bool.eq_false_or_eq_true (decide ((op : Int) ≤ 25)) with hc17 | hc17
    ·skip
     refine sd_see 22 (.bool true) (see_bool kr hc17) (sd_run 7 ?_)
     rcases Bool.eq_false_or_eq_true ((op : Int) != 24) with hc18 | hc18
     ·skip
      refine sd_see 2 (.bool true) (see_bool kr hc18) ?_
      simp only [bd] at hc1 hc11 hc16 hc17 hc18
      refine sdY (.bool true) hX [] [] True.intro ⟨(by congr 1; unfold plainB; rw [Bool.eq_iff_iff]; simp; omega), rfl⟩
     ·skip
      refine sd_see 2 (.bool false) (see_bool kr hc18) ?_
      simp only [bd] at hc1 hc11 hc16 hc17 hc18
      refine sdY (.bool false) hX [] [] True.intro ⟨(by congr 1; unfold plainB; rw [Bool.eq_iff_iff]; simp; omega), rfl⟩
    ·skip
     refine sd_see 22 (.bool false) (see_bool kr hc17) (sd_run 7 ?_)
     simp only [bd] at hc1 hc11 hc16 hc17
     refine sdY (.bool false) hX [] [] True.intro ⟨(by congr 1; unfold plainB; rw [Bool.eq_iff_iff]; simp; omega), rfl⟩
   ·skip
    refine sd_see 18 (.bool false) (see_bool kr hc16) (sd_run 11 ?_)
    simp only [bd] at hc1 hc11 hc16
    refine sdY (.bool false) hX [] [] True.intro ⟨(by congr 1; unfold plainB; rw [Bool.eq_iff_iff]; simp; omega), rfl⟩
def sp27 : List Value → Option Value
 | [.int .i64 op] => some (.bool (plainB op))
 | _ => none
noncomputable def T7 : Tab := { T6 with orc := addOrc T6.orc 27 sp27 }
theorem ok_T7 [Bs] : ProgOk Try.prog T7 := ok_T6.know 27 sp27 fun args v h => by
 unfold sp27 at h
 split at h
 ·rename_i op; cases h; exact ⟨rfl, rfl, SCall.data (plainB_s op) rfl rfl⟩
 ·cases h
instance : OrcDat T7 := orcDat_add inferInstance 27 sp27 fun l v h => by
 unfold sp27 at h
 split at h
 ·cases h; exact ⟨rfl, rfl⟩
 ·cases h
noncomputable def f28b : Code := Try.f28.body.getD .skip
theorem f28_body : Try.f28.body = some f28b := by kernel_rfl
theorem f28_fn : T7.fn 28 = some Try.f28 := by kernel_rfl
theorem endsB_s (op : Int)  : SCall Try.prog T7 28 #[.int .i64 op] (hq []) fun v h => v = .bool (endsB op) ∧ h = hq [] := by
 refine scall_sd 17 _ 0 kr f28_fn f28_body rfl rfl rfl fun X hX => ?_
 refine sd_run 10 ?_
 rcases Bool.eq_false_or_eq_true (decide ((op : Int) ≥ 32)) with hc1 | hc1
 ·skip
  refine sd_see 5 (.bool true) (see_bool kr hc1) (sd_run 4 ?_)
  rcases Bool.eq_false_or_eq_true (decide ((op : Int) ≤ 40)) with hc2 | hc2
  ·skip
   refine sd_see 9 (.bool true) (see_bool kr hc2) (sd_run 11 ?_)
   simp only [bd] at hc1 hc2
   refine sdY (.bool true) hX [] [] True.intro ⟨(by congr 1; unfold endsB; rw [Bool.eq_iff_iff]; simp; omega), rfl⟩
  ·skip
   refine sd_see 9 (.bool false) (see_bool kr hc2) (sd_run 3 ?_)
   rcases Bool.eq_false_or_eq_true (decide ((op : Int) ≥ 64)) with hc3 | hc3
   ·skip
    refine sd_see 12 (.bool true) (see_bool kr hc3) (sd_run 8 ?_)
    rcases Bool.eq_false_or_eq_true (decide ((op : Int) ≤ 69)) with hc4 | hc4
    ·skip
     refine sd_see 2 (.bool true) (see_bool kr hc4) ?_
     simp only [bd] at hc1 hc2 hc3 hc4
     refine sdY (.bool true) hX [] [] True.intro ⟨(by congr 1; unfold endsB; rw [Bool.eq_iff_iff]; simp; omega), rfl⟩
    ·skip
     refine sd_see 2 (.bool false) (see_bool kr hc4) ?_
     simp only [bd] at hc1 hc2 hc3 hc4
     refine sdY (.bool false) hX [] [] True.intro ⟨(by congr 1; unfold endsB; rw [Bool.eq_iff_iff]; simp; omega), rfl⟩
   ·skip
    refine sd_see 12 (.bool false) (see_bool kr hc3) (sd_run 8 ?_)
    simp only [bd] at hc1 hc2 hc3
    refine sdY (.bool false) hX [] [] True.intro ⟨(by congr 1; unfold endsB; rw [Bool.eq_iff_iff]; simp; omega), rfl⟩
 ·skip
  refine sd_see 5 (.bool false) (see_bool kr hc1) (sd_run 7 ?_)
  rcases Bool.eq_false_or_eq_true (decide ((op : Int) ≥ 64)) with hc5 | hc5
  ·skip
   refine sd_see 12 (.bool true) (see_bool kr hc5) (sd_run 8 ?_)
   rcases Bool.eq_false_or_eq_true (decide ((op : Int) ≤ 69)) with hc6 | hc6
   ·skip
    refine sd_see 2 (.bool true) (see_bool kr hc6) ?_
    simp only [bd] at hc1 hc5 hc6
    refine sdY (.bool true) hX [] [] True.intro ⟨(by congr 1; unfold endsB; rw [Bool.eq_iff_iff]; simp; omega), rfl⟩
   ·skip
    refine sd_see 2 (.bool false) (see_bool kr hc6) ?_
    simp only [bd] at hc1 hc5 hc6
    refine sdY (.bool false) hX [] [] True.intro ⟨(by congr 1; unfold endsB; rw [Bool.eq_iff_iff]; simp; omega), rfl⟩
  ·skip
   refine sd_see 12 (.bool false) (see_bool kr hc5) (sd_run 8 ?_)
   simp only [bd] at hc1 hc5
   refine sdY (.bool false) hX [] [] True.intro ⟨(by congr 1; unfold endsB; rw [Bool.eq_iff_iff]; simp; omega), rfl⟩
def sp28 : List Value → Option Value
 | [.int .i64 op] => some (.bool (endsB op))
 | _ => none
noncomputable def T8 : Tab := { T7 with orc := addOrc T7.orc 28 sp28 }
theorem ok_T8 [Bs] : ProgOk Try.prog T8 := ok_T7.know 28 sp28 fun args v h => by
 unfold sp28 at h
 split at h
 ·rename_i op; cases h; exact ⟨rfl, rfl, SCall.data (endsB_s op) rfl rfl⟩
 ·cases h
instance : OrcDat T8 := orcDat_add inferInstance 28 sp28 fun l v h => by
 unfold sp28 at h
 split at h
 ·cases h; exact ⟨rfl, rfl⟩
 ·cases h
noncomputable def f31b : Code := Try.f31.body.getD .skip
theorem f31_body : Try.f31.body = some f31b := by kernel_rfl
theorem f31_fn : T8.fn 31 = some Try.f31 := by kernel_rfl
theorem sign_s (n : Int)  : SCall Try.prog T8 31 #[.int .u32 n] (hq []) fun v h => v = .int .u32 (signZ n) ∧ h = hq [] := by
 refine scall_sd 7 _ 0 kr f31_fn f31_body rfl rfl rfl fun X hX => ?_
 refine sd_run 15 ?_
 refine sdY (.int .u32 (IntKind.u32.wrap (IntKind.i32.wrap (IntKind.i8.wrap n)))) hX [] [] True.intro ⟨rfl, rfl⟩
def sp31 : List Value → Option Value
 | [.int .u32 n] => some (.int .u32 (signZ n))
 | _ => none
noncomputable def T9 : Tab := { T8 with orc := addOrc T8.orc 31 sp31 }
theorem ok_T9 [Bs] : ProgOk Try.prog T9 := ok_T8.know 31 sp31 fun args v h => by
 unfold sp31 at h
 split at h
 ·rename_i n; cases h; exact ⟨rfl, rfl, SCall.data (sign_s n) rfl rfl⟩
 ·cases h
instance : OrcDat T9 := orcDat_add inferInstance 31 sp31 fun l v h => by
 unfold sp31 at h
 split at h
 ·cases h; exact ⟨rfl, rfl⟩
 ·cases h
noncomputable def f96b : Code := Try.f96.body.getD .skip
theorem f96_body : Try.f96.body = some f96b := by kernel_rfl
theorem f96_fn : T9.fn 96 = some Try.f96 := by kernel_rfl
theorem lit96 {x : Int} (n : Nat) (v : Value) (he : atEnd (goS Try.prog T9 n ⟨64, .code f96b, [], ⟨initTm 0 #[.int .i64 x], hq []⟩⟩) = true := by kernel_rfl) (hp : Try.f96.results.toList.all (presR (goS Try.prog T9 n ⟨64, .code f96b, [], ⟨initTm 0 #[.int .i64 x], hq []⟩⟩).s.tm) = true := by kernel_rfl) (hv : aresults T9 (goS Try.prog T9 n ⟨64, .code f96b, [], ⟨initTm 0 #[.int .i64 x], hq []⟩⟩).s.tm (goS Try.prog T9 n ⟨64, .code f96b, [], ⟨initTm 0 #[.int .i64 x], hq []⟩⟩).s.H Try.f96.results = some v := by kernel_rfl) (hl : subG 0 (goS Try.prog T9 n ⟨64, .code f96b, [], ⟨initTm 0 #[.int .i64 x], hq []⟩⟩).s.H [] 0 [] [] [] = true := by kernel_rfl) (hw : rn2 (emOf []) v = some v := by kernel_rfl) (ho : T9.orc 96 #[.int .i64 x].toList = none := by kernel_rfl) : SCall Try.prog T9 96 #[.int .i64 x] (hq []) fun r h => r = v ∧ h = hq [] := by
 refine scall_sd 64 _ 0 ho f96_fn f96_body rfl rfl rfl fun X hX => ?_
 exact sd_run n (sdY v hX [] [] True.intro ⟨rfl, rfl⟩ he hp hv hl rfl hw)
set_option maxHeartbeats 1000000 in
theorem size2_s (op : Int)  : SCall Try.prog T9 96 #[.int .i64 op] (hq []) fun v h => v = .int .i64 (sizeZ op) ∧ h = hq [] := by
 rcases named_cases op with h | h | h | h | h | h | rfl | rfl | rfl | rfl | rfl | rfl | rfl | rfl | rfl | rfl | rfl | rfl | rfl | rfl | rfl | rfl | rfl | rfl | rfl | rfl | rfl | rfl | rfl | rfl | rfl | rfl | rfl | rfl | rfl | rfl | rfl | rfl | rfl | rfl | rfl | rfl | rfl | rfl | rfl | rfl
 ·skip
  refine scall_sd 64 _ 0 kr f96_fn f96_body rfl rfl rfl fun X hX => ?_
  refine sd_run 11 (sdN 5 (op : Int) 2 (by omega) kr (sd_run 8 (sdN 8 (op : Int) 1 (by omega) kr (sd_run 3 (sdF 11 ((op : Int) ≥ 32) (by omega) kr (sd_run 8 (sdN 19 (op : Int) 66 (by omega) kr ?_)))))))
  refine sd_run 4 (sdN 23 (op : Int) 67 (by omega) kr (sd_run 9 (sdF 27 ((op : Int) ≥ 0) (by omega) kr (sd_run 7 (sdF 34 ((op : Int) ≥ 16) (by omega) kr (sd_run 8 (sdN 42 (op : Int) 39 (by omega) kr ?_)))))))
  refine sd_run 4 (sdN 46 (op : Int) 40 (by omega) kr (sd_run 4 (sdF 50 ((op : Int) ≥ 48) (by omega) kr (sd_run 8 (sdF 58 ((op : Int) ≥ 64) (by omega) kr (sd_run 18 ?_))))))
  refine sdY (.int .i64 0) hX [] [] True.intro ⟨(congrArg _ (size_gap (by omega)).symm), rfl⟩
 ·skip
  refine scall_sd 64 _ 0 kr f96_fn f96_body rfl rfl rfl fun X hX => ?_
  refine sd_run 11 (sdN 5 (op : Int) 2 (by omega) kr (sd_run 8 (sdN 8 (op : Int) 1 (by omega) kr (sd_run 3 (sdF 11 ((op : Int) ≥ 32) (by omega) kr (sd_run 8 (sdN 19 (op : Int) 66 (by omega) kr ?_)))))))
  refine sd_run 4 (sdN 23 (op : Int) 67 (by omega) kr (sd_run 9 (sdT 27 ((op : Int) ≥ 0) (by omega) kr (sd_run 3 (sdF 30 ((op : Int) ≤ 8) (by omega) kr (sd_run 4 (sdF 34 ((op : Int) ≥ 16) (by omega) kr ?_)))))))
  refine sd_run 8 (sdN 42 (op : Int) 39 (by omega) kr (sd_run 4 (sdN 46 (op : Int) 40 (by omega) kr (sd_run 4 (sdF 50 ((op : Int) ≥ 48) (by omega) kr (sd_run 8 (sdF 58 ((op : Int) ≥ 64) (by omega) kr ?_)))))))
  refine sd_run 18 ?_
  refine sdY (.int .i64 0) hX [] [] True.intro ⟨(congrArg _ (size_gap (by omega)).symm), rfl⟩
 ·skip
  refine scall_sd 64 _ 0 kr f96_fn f96_body rfl rfl rfl fun X hX => ?_
  refine sd_run 11 (sdN 5 (op : Int) 2 (by omega) kr (sd_run 8 (sdN 8 (op : Int) 1 (by omega) kr (sd_run 3 (sdF 11 ((op : Int) ≥ 32) (by omega) kr (sd_run 8 (sdN 19 (op : Int) 66 (by omega) kr ?_)))))))
  refine sd_run 4 (sdN 23 (op : Int) 67 (by omega) kr (sd_run 9 (sdT 27 ((op : Int) ≥ 0) (by omega) kr (sd_run 3 (sdF 30 ((op : Int) ≤ 8) (by omega) kr (sd_run 4 (sdT 34 ((op : Int) ≥ 16) (by omega) kr ?_)))))))
  refine sd_run 3 (sdF 37 ((op : Int) ≤ 25) (by omega) kr (sd_run 5 (sdN 42 (op : Int) 39 (by omega) kr (sd_run 4 (sdN 46 (op : Int) 40 (by omega) kr (sd_run 4 (sdF 50 ((op : Int) ≥ 48) (by omega) kr ?_)))))))
  refine sd_run 8 (sdF 58 ((op : Int) ≥ 64) (by omega) kr (sd_run 18 ?_))
  refine sdY (.int .i64 0) hX [] [] True.intro ⟨(congrArg _ (size_gap (by omega)).symm), rfl⟩
 ·skip
  refine scall_sd 64 _ 0 kr f96_fn f96_body rfl rfl rfl fun X hX => ?_
  refine sd_run 11 (sdN 5 (op : Int) 2 (by omega) kr (sd_run 8 (sdN 8 (op : Int) 1 (by omega) kr (sd_run 3 (sdT 11 ((op : Int) ≥ 32) (by omega) kr (sd_run 3 (sdF 14 ((op : Int) ≤ 38) (by omega) kr ?_)))))))
  refine sd_run 5 (sdN 19 (op : Int) 66 (by omega) kr (sd_run 4 (sdN 23 (op : Int) 67 (by omega) kr (sd_run 9 (sdT 27 ((op : Int) ≥ 0) (by omega) kr (sd_run 3 (sdF 30 ((op : Int) ≤ 8) (by omega) kr ?_)))))))
  refine sd_run 4 (sdT 34 ((op : Int) ≥ 16) (by omega) kr (sd_run 3 (sdF 37 ((op : Int) ≤ 25) (by omega) kr (sd_run 5 (sdN 42 (op : Int) 39 (by omega) kr (sd_run 4 (sdN 46 (op : Int) 40 (by omega) kr ?_)))))))
  refine sd_run 4 (sdF 50 ((op : Int) ≥ 48) (by omega) kr (sd_run 8 (sdF 58 ((op : Int) ≥ 64) (by omega) kr (sd_run 18 ?_))))
  refine sdY (.int .i64 0) hX [] [] True.intro ⟨(congrArg _ (size_gap (by omega)).symm), rfl⟩
 ·skip
  refine scall_sd 64 _ 0 kr f96_fn f96_body rfl rfl rfl fun X hX => ?_
  refine sd_run 11 (sdN 5 (op : Int) 2 (by omega) kr (sd_run 8 (sdN 8 (op : Int) 1 (by omega) kr (sd_run 3 (sdT 11 ((op : Int) ≥ 32) (by omega) kr (sd_run 3 (sdF 14 ((op : Int) ≤ 38) (by omega) kr ?_)))))))
  refine sd_run 5 (sdN 19 (op : Int) 66 (by omega) kr (sd_run 4 (sdN 23 (op : Int) 67 (by omega) kr (sd_run 9 (sdT 27 ((op : Int) ≥ 0) (by omega) kr (sd_run 3 (sdF 30 ((op : Int) ≤ 8) (by omega) kr ?_)))))))
  refine sd_run 4 (sdT 34 ((op : Int) ≥ 16) (by omega) kr (sd_run 3 (sdF 37 ((op : Int) ≤ 25) (by omega) kr (sd_run 5 (sdN 42 (op : Int) 39 (by omega) kr (sd_run 4 (sdN 46 (op : Int) 40 (by omega) kr ?_)))))))
  refine sd_run 4 (sdT 50 ((op : Int) ≥ 48) (by omega) kr (sd_run 3 (sdF 53 ((op : Int) ≤ 53) (by omega) kr (sd_run 5 (sdF 58 ((op : Int) ≥ 64) (by omega) kr (sd_run 18 ?_))))))
  refine sdY (.int .i64 0) hX [] [] True.intro ⟨(congrArg _ (size_gap (by omega)).symm), rfl⟩
 ·skip
  refine scall_sd 64 _ 0 kr f96_fn f96_body rfl rfl rfl fun X hX => ?_
  refine sd_run 11 (sdN 5 (op : Int) 2 (by omega) kr (sd_run 8 (sdN 8 (op : Int) 1 (by omega) kr (sd_run 3 (sdT 11 ((op : Int) ≥ 32) (by omega) kr (sd_run 3 (sdF 14 ((op : Int) ≤ 38) (by omega) kr ?_)))))))
  refine sd_run 5 (sdN 19 (op : Int) 66 (by omega) kr (sd_run 4 (sdN 23 (op : Int) 67 (by omega) kr (sd_run 9 (sdT 27 ((op : Int) ≥ 0) (by omega) kr (sd_run 3 (sdF 30 ((op : Int) ≤ 8) (by omega) kr ?_)))))))
  refine sd_run 4 (sdT 34 ((op : Int) ≥ 16) (by omega) kr (sd_run 3 (sdF 37 ((op : Int) ≤ 25) (by omega) kr (sd_run 5 (sdN 42 (op : Int) 39 (by omega) kr (sd_run 4 (sdN 46 (op : Int) 40 (by omega) kr ?_)))))))
  refine sd_run 4 (sdT 50 ((op : Int) ≥ 48) (by omega) kr (sd_run 3 (sdF 53 ((op : Int) ≤ 53) (by omega) kr (sd_run 5 (sdT 58 ((op : Int) ≥ 64) (by omega) kr (sd_run 3 (sdF 61 ((op : Int) ≤ 69) (by omega) kr ?_)))))))
  refine sd_run 15 ?_
  refine sdY (.int .i64 0) hX [] [] True.intro ⟨(congrArg _ (size_gap (by omega)).symm), rfl⟩
 ·exact lit96 91 (.int .i64 1)
 ·exact lit96 47 (.int .i64 2)
 ·exact lit96 23 (.int .i64 5)
 ·exact lit96 91 (.int .i64 1)
 ·exact lit96 91 (.int .i64 1)
 ·exact lit96 91 (.int .i64 1)
 ·exact lit96 91 (.int .i64 1)
 ·exact lit96 91 (.int .i64 1)
 ·exact lit96 91 (.int .i64 1)
 ·exact lit96 91 (.int .i64 1)
 ·exact lit96 91 (.int .i64 1)
 ·exact lit96 91 (.int .i64 1)
 ·exact lit96 91 (.int .i64 1)
 ·exact lit96 91 (.int .i64 1)
 ·exact lit96 91 (.int .i64 1)
 ·exact lit96 91 (.int .i64 1)
 ·exact lit96 91 (.int .i64 1)
 ·exact lit96 91 (.int .i64 1)
 ·exact lit96 91 (.int .i64 1)
 ·exact lit96 47 (.int .i64 2)
 ·exact lit96 47 (.int .i64 2)
 ·exact lit96 47 (.int .i64 2)
 ·exact lit96 47 (.int .i64 2)
 ·exact lit96 47 (.int .i64 2)
 ·exact lit96 47 (.int .i64 2)
 ·exact lit96 47 (.int .i64 2)
 ·exact lit96 91 (.int .i64 1)
 ·exact lit96 91 (.int .i64 1)
 ·exact lit96 91 (.int .i64 1)
 ·exact lit96 91 (.int .i64 1)
 ·exact lit96 91 (.int .i64 1)
 ·exact lit96 91 (.int .i64 1)
 ·exact lit96 91 (.int .i64 1)
 ·exact lit96 91 (.int .i64 1)
 ·exact lit96 91 (.int .i64 1)
 ·exact lit96 91 (.int .i64 1)
 ·exact lit96 47 (.int .i64 2)
 ·exact lit96 47 (.int .i64 2)
 ·exact lit96 91 (.int .i64 1)
 ·exact lit96 91 (.int .i64 1)
def sp96 : List Value → Option Value
 | [.int .i64 op] => some (.int .i64 (sizeZ op))
 | _ => none
noncomputable def T10 : Tab := { T9 with orc := addOrc T9.orc 96 sp96 }
theorem ok_T10 [Bs] : ProgOk Try.prog T10 := ok_T9.know 96 sp96 fun args v h => by
 unfold sp96 at h
 split at h
 ·rename_i op; cases h; exact ⟨rfl, rfl, SCall.data (size2_s op) rfl rfl⟩
 ·cases h
instance : OrcDat T10 := orcDat_add inferInstance 96 sp96 fun l v h => by
 unfold sp96 at h
 split at h
 ·cases h; exact ⟨rfl, rfl⟩
 ·cases h
noncomputable def f68b : Code := Try.f68.body.getD .skip
theorem f68_body : Try.f68.body = some f68b := by kernel_rfl
theorem f68_fn : T10.fn 68 = some Try.f68 := by kernel_rfl
theorem plainB2_s (op : Int)  : SCall Try.prog T10 68 #[.int .i64 op] (hq []) fun v h => v = .bool (plainB op) ∧ h = hq [] := by
 refine scall_sd 29 _ 0 kr f68_fn f68_body rfl rfl rfl fun X hX => ?_
 refine sd_run 10 ?_
 rcases Bool.eq_false_or_eq_true (decide ((op : Int) ≥ 0)) with hc1 | hc1
 ·skip
  refine sd_see 5 (.bool true) (see_bool kr hc1) (sd_run 4 ?_)
  rcases Bool.eq_false_or_eq_true (decide ((op : Int) ≤ 8)) with hc2 | hc2
  ·skip
   refine sd_see 9 (.bool true) (see_bool kr hc2) (sd_run 23 ?_)
   simp only [bd] at hc1 hc2
   refine sdY (.bool true) hX [] [] True.intro ⟨(by congr 1; unfold plainB; rw [Bool.eq_iff_iff]; simp; omega), rfl⟩
  ·skip
   refine sd_see 9 (.bool false) (see_bool kr hc2) (sd_run 3 ?_)
   rcases Bool.eq_false_or_eq_true (decide ((op : Int) ≥ 16)) with hc3 | hc3
   ·skip
    refine sd_see 12 (.bool true) (see_bool kr hc3) (sd_run 4 ?_)
    rcases Bool.eq_false_or_eq_true (decide ((op : Int) ≤ 25)) with hc4 | hc4
    ·skip
     refine sd_see 16 (.bool true) (see_bool kr hc4) (sd_run 5 ?_)
     rcases Bool.eq_false_or_eq_true ((op : Int) != 24) with hc5 | hc5
     ·skip
      refine sd_see 21 (.bool true) (see_bool kr hc5) (sd_run 11 ?_)
      simp only [bd] at hc1 hc2 hc3 hc4 hc5
      refine sdY (.bool true) hX [] [] True.intro ⟨(by congr 1; unfold plainB; rw [Bool.eq_iff_iff]; simp; omega), rfl⟩
     ·skip
      refine sd_see 21 (.bool false) (see_bool kr hc5) (sd_run 3 ?_)
      rcases Bool.eq_false_or_eq_true (decide ((op : Int) ≥ 32)) with hc6 | hc6
      ·skip
       refine sd_see 24 (.bool true) (see_bool kr hc6) (sd_run 8 ?_)
       rcases Bool.eq_false_or_eq_true (decide ((op : Int) ≤ 40)) with hc7 | hc7
       ·skip
        refine sd_see 2 (.bool true) (see_bool kr hc7) ?_
        simp only [bd] at hc1 hc2 hc3 hc4 hc5 hc6 hc7
        refine sdY (.bool true) hX [] [] True.intro ⟨(by congr 1; unfold plainB; rw [Bool.eq_iff_iff]; simp; omega), rfl⟩
       ·skip
        refine sd_see 2 (.bool false) (see_bool kr hc7) ?_
        simp only [bd] at hc1 hc2 hc3 hc4 hc5 hc6 hc7
        refine sdY (.bool false) hX [] [] True.intro ⟨(by congr 1; unfold plainB; rw [Bool.eq_iff_iff]; simp; omega), rfl⟩
      ·skip
       refine sd_see 24 (.bool false) (see_bool kr hc6) (sd_run 8 ?_)
       simp only [bd] at hc1 hc2 hc3 hc4 hc5 hc6
       refine sdY (.bool false) hX [] [] True.intro ⟨(by congr 1; unfold plainB; rw [Bool.eq_iff_iff]; simp; omega), rfl⟩
    ·skip
     refine sd_see 16 (.bool false) (see_bool kr hc4) (sd_run 8 ?_)
     rcases Bool.eq_false_or_eq_true (decide ((op : Int) ≥ 32)) with hc8 | hc8
     ·skip
      refine sd_see 24 (.bool true) (see_bool kr hc8) (sd_run 8 ?_)
      rcases Bool.eq_false_or_eq_true (decide ((op : Int) ≤ 40)) with hc9 | hc9
      ·skip
       refine sd_see 2 (.bool true) (see_bool kr hc9) ?_
       simp only [bd] at hc1 hc2 hc3 hc4 hc8 hc9
       refine sdY (.bool true) hX [] [] True.intro ⟨(by congr 1; unfold plainB; rw [Bool.eq_iff_iff]; simp; omega), rfl⟩
      ·skip
       refine sd_see 2 (.bool false) (see_bool kr hc9) ?_
       simp only [bd] at hc1 hc2 hc3 hc4 hc8 hc9
       refine sdY (.bool false) hX [] [] True.intro ⟨(by congr 1; unfold plainB; rw [Bool.eq_iff_iff]; simp; omega), rfl⟩
     ·skip
      refine sd_see 24 (.bool false) (see_bool kr hc8) (sd_run 8 ?_)
      simp only [bd] at hc1 hc2 hc3 hc4 hc8
      refine sdY (.bool false) hX [] [] True.intro ⟨(by congr 1; unfold plainB; rw [Bool.eq_iff_iff]; simp; omega), rfl⟩
   ·skip
    refine sd_see 12 (.bool false) (see_bool kr hc3) (sd_run 12 ?_)
    rcases Bool.eq_false_or_eq_true (decide ((op : Int) ≥ 32)) with hc10 | hc10
    ·skip
     refine sd_see 24 (.bool true) (see_bool kr hc10) (sd_run 8 ?_)
     rcases Bool.eq_false_or_eq_true (decide ((op : Int) ≤ 40)) with hc11 | hc11
     ·skip
      refine sd_see 2 (.bool true) (see_bool kr hc11) ?_
      simp only [bd] at hc1 hc2 hc3 hc10 hc11
      refine sdY (.bool true) hX [] [] True.intro ⟨(by congr 1; unfold plainB; rw [Bool.eq_iff_iff]; simp; omega), rfl⟩
     ·skip
      refine sd_see 2 (.bool false) (see_bool kr hc11) ?_
      simp only [bd] at hc1 hc2 hc3 hc10 hc11
      refine sdY (.bool false) hX [] [] True.intro ⟨(by congr 1; unfold plainB; rw [Bool.eq_iff_iff]; simp; omega), rfl⟩
    ·skip
     refine sd_see 24 (.bool false) (see_bool kr hc10) (sd_run 8 ?_)
     simp only [bd] at hc1 hc2 hc3 hc10
     refine sdY (.bool false) hX [] [] True.intro ⟨(by congr 1; unfold plainB; rw [Bool.eq_iff_iff]; simp; omega), rfl⟩
 ·skip
  refine sd_see 5 (.bool false) (see_bool kr hc1) (sd_run 7 ?_)
  rcases Bool.eq_false_or_eq_true (decide ((op : Int) ≥ 16)) with hc12 | hc12
  ·skip
   refine sd_see 12 (.bool true) (see_bool kr hc12) (sd_run 4 ?_)
   rcases Bool.eq_false_or_eq_true (decide ((op : Int) ≤ 25)) with hc13 | hc13
   ·skip
    refine sd_see 16 (.bool true) (see_bool kr hc13) (sd_run 5 ?_)
    rcases Bool.eq_false_or_eq_true ((op : Int) != 24) with hc14 | hc14
    ·skip
     refine sd_see 21 (.bool true) (see_bool kr hc14) (sd_run 11 ?_)
     simp only [bd] at hc1 hc12 hc13 hc14
     refine sdY (.bool true) hX [] [] True.intro ⟨(by congr 1; unfold plainB; rw [Bool.eq_iff_iff]; simp; omega), rfl⟩
    ·skip
     refine sd_see 21 (.bool false) (see_bool kr hc14) (sd_run 3 ?_)
     rcases Bool.eq_false_or_eq_true (decide ((op : Int) ≥ 32)) with hc15 | hc15
     ·skip
      refine sd_see 24 (.bool true) (see_bool kr hc15) (sd_run 8 ?_)
      rcases Bool.eq_false_or_eq_true (decide ((op : Int) ≤ 40)) with hc16 | hc16
      ·skip
       refine sd_see 2 (.bool true) (see_bool kr hc16) ?_
       simp only [bd] at hc1 hc12 hc13 hc14 hc15 hc16
       refine sdY (.bool true) hX [] [] True.intro ⟨(by congr 1; unfold plainB; rw [Bool.eq_iff_iff]; simp; omega), rfl⟩
      ·skip
       refine sd_see 2 (.bool false) (see_bool kr hc16) ?_
       simp only [bd] at hc1 hc12 hc13 hc14 hc15 hc16
       refine sdY (.bool false) hX [] [] True.intro ⟨(by congr 1; unfold plainB; rw [Bool.eq_iff_iff]; simp; omega), rfl⟩
     ·skip
      refine sd_see 24 (.bool false) (see_bool kr hc15) (sd_run 8 ?_)
      simp only [bd] at hc1 hc12 hc13 hc14 hc15
      refine sdY (.bool false) hX [] [] True.intro ⟨(by congr 1; unfold plainB; rw [Bool.eq_iff_iff]; simp; omega), rfl⟩
   ·skip
    refine sd_see 16 (.bool false) (see_bool kr hc13) (sd_run 8 ?_)
    rcases Bool.eq_false_or_eq_true (decide ((op : Int) ≥ 32)) with hc17 | hc17
    ·skip
     refine sd_see 24 (.bool true) (see_bool kr hc17) (sd_run 8 ?_)
     rcases Bool.eq_false_or_eq_true (decide ((op : Int) ≤ 40)) with hc18 | hc18
     ·skip
      refine sd_see 2 (.bool true) (see_bool kr hc18) ?_
      simp only [bd] at hc1 hc12 hc13 hc17 hc18
      refine sdY (.bool true) hX [] [] True.intro ⟨(by congr 1; unfold plainB; rw [Bool.eq_iff_iff]; simp; omega), rfl⟩
     ·skip
      refine sd_see 2 (.bool false) (see_bool kr hc18) ?_
      simp only [bd] at hc1 hc12 hc13 hc17 hc18
      refine sdY (.bool false) hX [] [] True.intro ⟨(by congr 1; unfold plainB; rw [Bool.eq_iff_iff]; simp; omega), rfl⟩
    ·skip
     refine sd_see 24 (.bool false) (see_bool kr hc17) (sd_run 8 ?_)
     simp only [bd] at hc1 hc12 hc13 hc17
     refine sdY (.bool false) hX [] [] True.intro ⟨(by congr 1; unfold plainB; rw [Bool.eq_iff_iff]; simp; omega), rfl⟩
  ·skip
   refine sd_see 12 (.bool false) (see_bool kr hc12) (sd_run 12 ?_)
   rcases Bool.eq_false_or_eq_true (decide ((op : Int) ≥ 32)) with hc19 | hc19
   ·skip
    refine sd_see 24 (.bool true) (see_bool kr hc19) (sd_run 8 ?_)
    rcases Bool.eq_false_or_eq_true (decide ((op : Int) ≤ 40)) with hc20 | hc20
    ·skip
     refine sd_see 2 (.bool true) (see_bool kr hc20) ?_
     simp only [bd] at hc1 hc12 hc19 hc20
     refine sdY (.bool true) hX [] [] True.intro ⟨(by congr 1; unfold plainB; rw [Bool.eq_iff_iff]; simp; omega), rfl⟩
    ·skip
     refine sd_see 2 (.bool false) (see_bool kr hc20) ?_
     simp only [bd] at hc1 hc12 hc19 hc20
     refine sdY (.bool false) hX [] [] True.intro ⟨(by congr 1; unfold plainB; rw [Bool.eq_iff_iff]; simp; omega), rfl⟩
   ·skip
    refine sd_see 24 (.bool false) (see_bool kr hc19) (sd_run 8 ?_)
    simp only [bd] at hc1 hc12 hc19
    refine sdY (.bool false) hX [] [] True.intro ⟨(by congr 1; unfold plainB; rw [Bool.eq_iff_iff]; simp; omega), rfl⟩
def sp68 : List Value → Option Value
 | [.int .i64 op] => some (.bool (plainB op))
 | _ => none
noncomputable def T11 : Tab := { T10 with orc := addOrc T10.orc 68 sp68 }
theorem ok_T11 [Bs] : ProgOk Try.prog T11 := ok_T10.know 68 sp68 fun args v h => by
 unfold sp68 at h
 split at h
 ·rename_i op; cases h; exact ⟨rfl, rfl, SCall.data (plainB2_s op) rfl rfl⟩
 ·cases h
instance : OrcDat T11 := orcDat_add inferInstance 68 sp68 fun l v h => by
 unfold sp68 at h
 split at h
 ·cases h; exact ⟨rfl, rfl⟩
 ·cases h
noncomputable def f69b : Code := Try.f69.body.getD .skip
theorem f69_body : Try.f69.body = some f69b := by kernel_rfl
theorem f69_fn : T11.fn 69 = some Try.f69 := by kernel_rfl
theorem endsB2_s (op : Int)  : SCall Try.prog T11 69 #[.int .i64 op] (hq []) fun v h => v = .bool (endsB op) ∧ h = hq [] := by
 refine scall_sd 17 _ 0 kr f69_fn f69_body rfl rfl rfl fun X hX => ?_
 refine sd_run 10 ?_
 rcases Bool.eq_false_or_eq_true (decide ((op : Int) ≥ 32)) with hc1 | hc1
 ·skip
  refine sd_see 5 (.bool true) (see_bool kr hc1) (sd_run 4 ?_)
  rcases Bool.eq_false_or_eq_true (decide ((op : Int) ≤ 40)) with hc2 | hc2
  ·skip
   refine sd_see 9 (.bool true) (see_bool kr hc2) (sd_run 11 ?_)
   simp only [bd] at hc1 hc2
   refine sdY (.bool true) hX [] [] True.intro ⟨(by congr 1; unfold endsB; rw [Bool.eq_iff_iff]; simp; omega), rfl⟩
  ·skip
   refine sd_see 9 (.bool false) (see_bool kr hc2) (sd_run 3 ?_)
   rcases Bool.eq_false_or_eq_true (decide ((op : Int) ≥ 64)) with hc3 | hc3
   ·skip
    refine sd_see 12 (.bool true) (see_bool kr hc3) (sd_run 8 ?_)
    rcases Bool.eq_false_or_eq_true (decide ((op : Int) ≤ 69)) with hc4 | hc4
    ·skip
     refine sd_see 2 (.bool true) (see_bool kr hc4) ?_
     simp only [bd] at hc1 hc2 hc3 hc4
     refine sdY (.bool true) hX [] [] True.intro ⟨(by congr 1; unfold endsB; rw [Bool.eq_iff_iff]; simp; omega), rfl⟩
    ·skip
     refine sd_see 2 (.bool false) (see_bool kr hc4) ?_
     simp only [bd] at hc1 hc2 hc3 hc4
     refine sdY (.bool false) hX [] [] True.intro ⟨(by congr 1; unfold endsB; rw [Bool.eq_iff_iff]; simp; omega), rfl⟩
   ·skip
    refine sd_see 12 (.bool false) (see_bool kr hc3) (sd_run 8 ?_)
    simp only [bd] at hc1 hc2 hc3
    refine sdY (.bool false) hX [] [] True.intro ⟨(by congr 1; unfold endsB; rw [Bool.eq_iff_iff]; simp; omega), rfl⟩
 ·skip
  refine sd_see 5 (.bool false) (see_bool kr hc1) (sd_run 7 ?_)
  rcases Bool.eq_false_or_eq_true (decide ((op : Int) ≥ 64)) with hc5 | hc5
  ·skip
   refine sd_see 12 (.bool true) (see_bool kr hc5) (sd_run 8 ?_)
   rcases Bool.eq_false_or_eq_true (decide ((op : Int) ≤ 69)) with hc6 | hc6
   ·skip
    refine sd_see 2 (.bool true) (see_bool kr hc6) ?_
    simp only [bd] at hc1 hc5 hc6
    refine sdY (.bool true) hX [] [] True.intro ⟨(by congr 1; unfold endsB; rw [Bool.eq_iff_iff]; simp; omega), rfl⟩
   ·skip
    refine sd_see 2 (.bool false) (see_bool kr hc6) ?_
    simp only [bd] at hc1 hc5 hc6
    refine sdY (.bool false) hX [] [] True.intro ⟨(by congr 1; unfold endsB; rw [Bool.eq_iff_iff]; simp; omega), rfl⟩
  ·skip
   refine sd_see 12 (.bool false) (see_bool kr hc5) (sd_run 8 ?_)
   simp only [bd] at hc1 hc5
   refine sdY (.bool false) hX [] [] True.intro ⟨(by congr 1; unfold endsB; rw [Bool.eq_iff_iff]; simp; omega), rfl⟩
def sp69 : List Value → Option Value
 | [.int .i64 op] => some (.bool (endsB op))
 | _ => none
noncomputable def T12 : Tab := { T11 with orc := addOrc T11.orc 69 sp69 }
theorem ok_T12 [Bs] : ProgOk Try.prog T12 := ok_T11.know 69 sp69 fun args v h => by
 unfold sp69 at h
 split at h
 ·rename_i op; cases h; exact ⟨rfl, rfl, SCall.data (endsB2_s op) rfl rfl⟩
 ·cases h
instance : OrcDat T12 := orcDat_add inferInstance 69 sp69 fun l v h => by
 unfold sp69 at h
 split at h
 ·cases h; exact ⟨rfl, rfl⟩
 ·cases h
def regB (n : Int) : Bool := decide (0 ≤ n) && decide (n < 16)
def hrB (op rd ra rb im : Int) : Bool :=
 (if op = 0 then decide (rd = 0 ∧ ra = 0 ∧ rb = 0 ∧ im = 0) else if op = 1 then decide (ra = 0 ∧ rb = 0) else if op = 2 then decide (rb = 0 ∧ im = 0) else if 3 ≤ op ∧ op ≤ 13 then decide (im = 0)
  else if op = 14 then decide (rb = 0) else if op = 15 then decide (rd = 0) else if op = 16 ∨ op = 17 then decide (rd = 0 ∧ rb = 0) else if op = 18 ∨ op = 19 then decide (rd = 0 ∧ ra = 0 ∧ rb = 0) else false) && (regB rd && (regB ra && regB rb))
noncomputable def f107b : Code := Try.f107.body.getD .skip
theorem f107_body : Try.f107.body = some f107b := by kernel_rfl
theorem f107_fn : T12.fn 107 = some Try.f107 := by kernel_rfl
theorem regB_s (n : Int)  : SCall Try.prog T12 107 #[.int .i64 n] (hq []) fun v h => v = .bool (regB n) ∧ h = hq [] := by
 refine scall_sd 9 _ 0 kr f107_fn f107_body rfl rfl rfl fun X hX => ?_
 refine sd_run 10 ?_
 rcases Bool.eq_false_or_eq_true (decide ((n : Int) ≥ 0)) with hc1 | hc1
 ·skip
  refine sd_see 5 (.bool true) (see_bool kr hc1) (sd_run 7 ?_)
  rcases Bool.eq_false_or_eq_true (decide ((n : Int) < 16)) with hc2 | hc2
  ·skip
   refine sd_see 2 (.bool true) (see_bool kr hc2) ?_
   simp only [bd] at hc1 hc2
   refine sdY (.bool true) hX [] [] True.intro ⟨(by congr 1; unfold regB; rw [Bool.eq_iff_iff]; simp; omega), rfl⟩
  ·skip
   refine sd_see 2 (.bool false) (see_bool kr hc2) ?_
   simp only [bd] at hc1 hc2
   refine sdY (.bool false) hX [] [] True.intro ⟨(by congr 1; unfold regB; rw [Bool.eq_iff_iff]; simp; omega), rfl⟩
 ·skip
  refine sd_see 5 (.bool false) (see_bool kr hc1) (sd_run 7 ?_)
  simp only [bd] at hc1
  refine sdY (.bool false) hX [] [] True.intro ⟨(by congr 1; unfold regB; rw [Bool.eq_iff_iff]; simp; omega), rfl⟩
def sp107 : List Value → Option Value
 | [.int .i64 n] => some (.bool (regB n))
 | _ => none
noncomputable def T13 : Tab := { T12 with orc := addOrc T12.orc 107 sp107 }
theorem ok_T13 [Bs] : ProgOk Try.prog T13 := ok_T12.know 107 sp107 fun args v h => by
 unfold sp107 at h
 split at h
 ·rename_i n; cases h; exact ⟨rfl, rfl, SCall.data (regB_s n) rfl rfl⟩
 ·cases h
instance : OrcDat T13 := orcDat_add inferInstance 107 sp107 fun l v h => by
 unfold sp107 at h
 split at h
 ·cases h; exact ⟨rfl, rfl⟩
 ·cases h
noncomputable def f87b : Code := Try.f87.body.getD .skip
theorem f87_body : Try.f87.body = some f87b := by kernel_rfl
theorem f87_fn : T13.fn 87 = some Try.f87 := by kernel_rfl
set_option maxHeartbeats 2000000 in
theorem hr_s (op rd ra rb im : Int)  : SCall Try.prog T13 87 #[.agg #[.int .i64 op, .int .i64 rd, .int .i64 ra, .int .i64 rb, .int .u32 im]] (hq []) fun v h => v = .bool (hrB op rd ra rb im) ∧ h = hq [] := by
 refine scall_sd 31 _ 0 kr f87_fn f87_body rfl rfl rfl fun X hX => ?_
 refine sd_run 36 ?_
 rcases Bool.eq_false_or_eq_true ((op : Int) == 0) with hc1 | hc1
 ·skip
  refine sd_see 9 (.bool true) (see_bool kr hc1) (sd_run 30 ?_)
  rcases Bool.eq_false_or_eq_true (((op : Int) == op) && (((0 : Int) == rd) && (((0 : Int) == ra) && (((0 : Int) == rb) && (((0 : Int) == im) && true))))) with hc2 | hc2
  ·skip
   refine sd_see 16 (.bool true) (see_bool kr hc2) (sd_run 2 (sd_ask 19 (.bool (regB rd)) 107 #[.int .i64 rd] kr kr kr rfl (sd_run 2 ?_)))
   rcases Bool.eq_false_or_eq_true (regB rd) with hc3 | hc3
   ·skip
    refine sd_see 21 (.bool true) (see_bool kr hc3) (sd_run 2 (sd_ask 24 (.bool (regB ra)) 107 #[.int .i64 ra] kr kr kr rfl (sd_run 2 ?_)))
    rcases Bool.eq_false_or_eq_true (regB ra) with hc4 | hc4
    ·skip
     refine sd_see 26 (.bool true) (see_bool kr hc4) (sd_run 2 (sd_ask 29 (.bool (regB rb)) 107 #[.int .i64 rb] kr kr kr rfl (sd_run 5 ?_)))
     simp only [bd] at hc1 hc2 hc3 hc4
     refine sdY (.bool (regB rb)) hX [] [] True.intro ⟨(by unfold hrB; congr 1; simp [*] <;> first | omega | (intros; simp_all; done) | (intros; simp_all; omega)), rfl⟩
    ·skip
     refine sd_see 26 (.bool false) (see_bool kr hc4) (sd_run 8 ?_)
     simp only [bd] at hc1 hc2 hc3 hc4
     refine sdY (.bool false) hX [] [] True.intro ⟨(by congr 1; unfold hrB; simp [*] <;> first | omega | (intros; simp_all; done) | (intros; simp_all; omega)), rfl⟩
   ·skip
    refine sd_see 21 (.bool false) (see_bool kr hc3) (sd_run 13 ?_)
    simp only [bd] at hc1 hc2 hc3
    refine sdY (.bool false) hX [] [] True.intro ⟨(by congr 1; unfold hrB; simp [*] <;> first | omega | (intros; simp_all; done) | (intros; simp_all; omega)), rfl⟩
  ·skip
   refine sd_see 16 (.bool false) (see_bool kr hc2) (sd_run 18 ?_)
   simp only [bd] at hc1 hc2
   refine sdY (.bool false) hX [] [] True.intro ⟨(by congr 1; unfold hrB; simp [*] <;> first | omega | (intros; simp_all; done) | (intros; simp_all; omega)), rfl⟩
 ·skip
  refine sd_see 9 (.bool false) (see_bool kr hc1) (sd_run 9 ?_)
  rcases Bool.eq_false_or_eq_true ((op : Int) == 1) with hc5 | hc5
  ·skip
   refine sd_see 13 (.bool true) (see_bool kr hc5) (sd_run 1 (sd_drawQ [(3, 5)] kr kr ?_))
   refine sq_run 3 ?_
   refine sq_rd 20 (.int .u32 im) (.pointer (some ⟨1, 4, none⟩)) 22 kr kr kr kr (veq_int _ _) kr ?_
   refine sq_run 1 ?_
   refine sq_sto (hq [some ⟨[Value.int .i64 op, .int .i64 rd, .int .i64 ra, .int .i64 rb, .int .u32 im], 108, false⟩, some ⟨[Value.int .i64 op, .int .i64 rd, .int .i64 ra, .int .i64 rb, .int .u32 im], 108, false⟩, some ⟨[Value.int .i64 0, .int .i64 0, .int .i64 0, .int .i64 0, .int .u32 0], 108, false⟩, some ⟨[Value.int .i64 op, .int .i64 rd, .int .i64 0, .int .i64 0, .int .u32 0], 108, false⟩]) kr kr kr kr kr ⟨kr, kr, kr⟩ ?_
   refine sq_run 2 ?_
   refine sq_end kr ?_
   refine sd_run 28 ?_
   rcases Bool.eq_false_or_eq_true (((op : Int) == op) && (((rd : Int) == rd) && (((0 : Int) == ra) && (((0 : Int) == rb) && (((im : Int) == im) && true))))) with hc6 | hc6
   ·skip
    refine sd_see 16 (.bool true) (see_bool kr hc6) (sd_run 2 (sd_ask 19 (.bool (regB rd)) 107 #[.int .i64 rd] kr kr kr rfl (sd_run 2 ?_)))
    rcases Bool.eq_false_or_eq_true (regB rd) with hc7 | hc7
    ·skip
     refine sd_see 21 (.bool true) (see_bool kr hc7) (sd_run 2 (sd_ask 24 (.bool (regB ra)) 107 #[.int .i64 ra] kr kr kr rfl (sd_run 2 ?_)))
     rcases Bool.eq_false_or_eq_true (regB ra) with hc8 | hc8
     ·skip
      refine sd_see 26 (.bool true) (see_bool kr hc8) (sd_run 2 (sd_ask 29 (.bool (regB rb)) 107 #[.int .i64 rb] kr kr kr rfl (sd_run 5 ?_)))
      simp only [bd] at hc1 hc5 hc6 hc7 hc8
      refine sdY (.bool (regB rb)) hX [] [] True.intro ⟨(by unfold hrB; congr 1; simp [*] <;> first | omega | (intros; simp_all; done) | (intros; simp_all; omega)), rfl⟩
     ·skip
      refine sd_see 26 (.bool false) (see_bool kr hc8) (sd_run 8 ?_)
      simp only [bd] at hc1 hc5 hc6 hc7 hc8
      refine sdY (.bool false) hX [] [] True.intro ⟨(by congr 1; unfold hrB; simp [*] <;> first | omega | (intros; simp_all; done) | (intros; simp_all; omega)), rfl⟩
    ·skip
     refine sd_see 21 (.bool false) (see_bool kr hc7) (sd_run 13 ?_)
     simp only [bd] at hc1 hc5 hc6 hc7
     refine sdY (.bool false) hX [] [] True.intro ⟨(by congr 1; unfold hrB; simp [*] <;> first | omega | (intros; simp_all; done) | (intros; simp_all; omega)), rfl⟩
   ·skip
    refine sd_see 16 (.bool false) (see_bool kr hc6) (sd_run 18 ?_)
    simp only [bd] at hc1 hc5 hc6
    refine sdY (.bool false) hX [] [] True.intro ⟨(by congr 1; unfold hrB; simp [*] <;> first | omega | (intros; simp_all; done) | (intros; simp_all; omega)), rfl⟩
  ·skip
   refine sd_see 13 (.bool false) (see_bool kr hc5) (sd_run 9 ?_)
   rcases Bool.eq_false_or_eq_true ((op : Int) == 2) with hc9 | hc9
   ·skip
    refine sd_see 23 (.bool true) (see_bool kr hc9) (sd_run 1 (sd_drawQ [(3, 5)] kr kr ?_))
    refine sq_run 3 ?_
    refine sq_rd 30 (.int .i64 ra) (.pointer (some ⟨1, 2, none⟩)) 3 kr kr kr kr (veq_int _ _) kr ?_
    refine sq_run 1 ?_
    refine sq_sto (hq [some ⟨[Value.int .i64 op, .int .i64 rd, .int .i64 ra, .int .i64 rb, .int .u32 im], 108, false⟩, some ⟨[Value.int .i64 op, .int .i64 rd, .int .i64 ra, .int .i64 rb, .int .u32 im], 108, false⟩, some ⟨[Value.int .i64 0, .int .i64 0, .int .i64 0, .int .i64 0, .int .u32 0], 108, false⟩, some ⟨[Value.int .i64 op, .int .i64 rd, .int .i64 0, .int .i64 0, .int .u32 0], 108, false⟩]) kr kr kr kr kr ⟨kr, kr, kr⟩ ?_
    refine sq_run 2 ?_
    refine sq_end kr ?_
    refine sd_run 28 ?_
    rcases Bool.eq_false_or_eq_true (((op : Int) == op) && (((rd : Int) == rd) && (((ra : Int) == ra) && (((0 : Int) == rb) && (((0 : Int) == im) && true))))) with hc10 | hc10
    ·skip
     refine sd_see 16 (.bool true) (see_bool kr hc10) (sd_run 2 (sd_ask 19 (.bool (regB rd)) 107 #[.int .i64 rd] kr kr kr rfl (sd_run 2 ?_)))
     rcases Bool.eq_false_or_eq_true (regB rd) with hc11 | hc11
     ·skip
      refine sd_see 21 (.bool true) (see_bool kr hc11) (sd_run 2 (sd_ask 24 (.bool (regB ra)) 107 #[.int .i64 ra] kr kr kr rfl (sd_run 2 ?_)))
      rcases Bool.eq_false_or_eq_true (regB ra) with hc12 | hc12
      ·skip
       refine sd_see 26 (.bool true) (see_bool kr hc12) (sd_run 2 (sd_ask 29 (.bool (regB rb)) 107 #[.int .i64 rb] kr kr kr rfl (sd_run 5 ?_)))
       simp only [bd] at hc1 hc5 hc9 hc10 hc11 hc12
       refine sdY (.bool (regB rb)) hX [] [] True.intro ⟨(by unfold hrB; congr 1; simp [*] <;> first | omega | (intros; simp_all; done) | (intros; simp_all; omega)), rfl⟩
      ·skip
       refine sd_see 26 (.bool false) (see_bool kr hc12) (sd_run 8 ?_)
       simp only [bd] at hc1 hc5 hc9 hc10 hc11 hc12
       refine sdY (.bool false) hX [] [] True.intro ⟨(by congr 1; unfold hrB; simp [*] <;> first | omega | (intros; simp_all; done) | (intros; simp_all; omega)), rfl⟩
     ·skip
      refine sd_see 21 (.bool false) (see_bool kr hc11) (sd_run 13 ?_)
      simp only [bd] at hc1 hc5 hc9 hc10 hc11
      refine sdY (.bool false) hX [] [] True.intro ⟨(by congr 1; unfold hrB; simp [*] <;> first | omega | (intros; simp_all; done) | (intros; simp_all; omega)), rfl⟩
    ·skip
     refine sd_see 16 (.bool false) (see_bool kr hc10) (sd_run 18 ?_)
     simp only [bd] at hc1 hc5 hc9 hc10
     refine sdY (.bool false) hX [] [] True.intro ⟨(by congr 1; unfold hrB; simp [*] <;> first | omega | (intros; simp_all; done) | (intros; simp_all; omega)), rfl⟩
   ·skip
    refine sd_see 23 (.bool false) (see_bool kr hc9) (sd_run 7 ?_)
    rcases Bool.eq_false_or_eq_true (decide ((op : Int) ≥ 3)) with hc13 | hc13
    ·skip
     refine sd_see 37 (.bool true) (see_bool kr hc13) (sd_run 7 ?_)
     rcases Bool.eq_false_or_eq_true (decide ((op : Int) ≤ 13)) with hc14 | hc14
     ·skip
      refine sd_see 33 (.bool true) (see_bool kr hc14) (sd_run 1 (sd_drawQ [(3, 7), (5, 7), (5, 9)] kr kr ?_))
      refine sq_run 3 ?_
      refine sq_rd 45 (.int .i64 ra) (.pointer (some ⟨1, 2, none⟩)) 3 kr kr kr kr (veq_int _ _) kr ?_
      refine sq_run 1 ?_
      refine sq_rd 47 (.int .i64 rb) (.pointer (some ⟨1, 3, none⟩)) 3 kr kr kr kr (veq_int _ _) kr ?_
      refine sq_run 1 ?_
      refine sq_sto (hq [some ⟨[Value.int .i64 op, .int .i64 rd, .int .i64 ra, .int .i64 rb, .int .u32 im], 108, false⟩, some ⟨[Value.int .i64 op, .int .i64 rd, .int .i64 ra, .int .i64 rb, .int .u32 im], 108, false⟩, some ⟨[Value.int .i64 0, .int .i64 0, .int .i64 0, .int .i64 0, .int .u32 0], 108, false⟩, some ⟨[Value.int .i64 op, .int .i64 rd, .int .i64 0, .int .i64 0, .int .u32 0], 108, false⟩]) kr kr kr kr kr ⟨kr, kr, kr⟩ ?_
      refine sq_run 1 ?_
      refine sq_sto (hq [some ⟨[Value.int .i64 op, .int .i64 rd, .int .i64 ra, .int .i64 rb, .int .u32 im], 108, false⟩, some ⟨[Value.int .i64 op, .int .i64 rd, .int .i64 ra, .int .i64 rb, .int .u32 im], 108, false⟩, some ⟨[Value.int .i64 0, .int .i64 0, .int .i64 0, .int .i64 0, .int .u32 0], 108, false⟩, some ⟨[Value.int .i64 op, .int .i64 rd, .int .i64 ra, .int .i64 0, .int .u32 0], 108, false⟩]) kr kr kr kr kr ⟨kr, kr, kr⟩ ?_
      refine sq_run 2 ?_
      refine sq_end kr ?_
      refine sd_run 28 ?_
      rcases Bool.eq_false_or_eq_true (((op : Int) == op) && (((rd : Int) == rd) && (((ra : Int) == ra) && (((rb : Int) == rb) && (((0 : Int) == im) && true))))) with hc15 | hc15
      ·skip
       refine sd_see 16 (.bool true) (see_bool kr hc15) (sd_run 2 (sd_ask 19 (.bool (regB rd)) 107 #[.int .i64 rd] kr kr kr rfl (sd_run 2 ?_)))
       rcases Bool.eq_false_or_eq_true (regB rd) with hc16 | hc16
       ·skip
        refine sd_see 21 (.bool true) (see_bool kr hc16) (sd_run 2 (sd_ask 24 (.bool (regB ra)) 107 #[.int .i64 ra] kr kr kr rfl (sd_run 2 ?_)))
        rcases Bool.eq_false_or_eq_true (regB ra) with hc17 | hc17
        ·skip
         refine sd_see 26 (.bool true) (see_bool kr hc17) (sd_run 2 (sd_ask 29 (.bool (regB rb)) 107 #[.int .i64 rb] kr kr kr rfl (sd_run 5 ?_)))
         simp only [bd] at hc1 hc5 hc9 hc13 hc14 hc15 hc16 hc17
         refine sdY (.bool (regB rb)) hX [] [] True.intro ⟨(by unfold hrB; congr 1; simp [*] <;> first | omega | (intros; simp_all; done) | (intros; simp_all; omega)), rfl⟩
        ·skip
         refine sd_see 26 (.bool false) (see_bool kr hc17) (sd_run 8 ?_)
         simp only [bd] at hc1 hc5 hc9 hc13 hc14 hc15 hc16 hc17
         refine sdY (.bool false) hX [] [] True.intro ⟨(by congr 1; unfold hrB; simp [*] <;> first | omega | (intros; simp_all; done) | (intros; simp_all; omega)), rfl⟩
       ·skip
        refine sd_see 21 (.bool false) (see_bool kr hc16) (sd_run 13 ?_)
        simp only [bd] at hc1 hc5 hc9 hc13 hc14 hc15 hc16
        refine sdY (.bool false) hX [] [] True.intro ⟨(by congr 1; unfold hrB; simp [*] <;> first | omega | (intros; simp_all; done) | (intros; simp_all; omega)), rfl⟩
      ·skip
       refine sd_see 16 (.bool false) (see_bool kr hc15) (sd_run 18 ?_)
       simp only [bd] at hc1 hc5 hc9 hc13 hc14 hc15
       refine sdY (.bool false) hX [] [] True.intro ⟨(by congr 1; unfold hrB; simp [*] <;> first | omega | (intros; simp_all; done) | (intros; simp_all; omega)), rfl⟩
     ·skip
      refine sd_see 33 (.bool false) (see_bool kr hc14) (sd_run 9 ?_)
      rcases Bool.eq_false_or_eq_true ((op : Int) == 14) with hc18 | hc18
      ·skip
       refine sd_see 51 (.bool true) (see_bool kr hc18) (sd_run 1 (sd_drawQ [(3, 7), (5, 7), (5, 9)] kr kr ?_))
       refine sq_run 3 ?_
       refine sq_rd 58 (.int .i64 ra) (.pointer (some ⟨1, 2, none⟩)) 3 kr kr kr kr (veq_int _ _) kr ?_
       refine sq_run 1 ?_
       refine sq_rd 60 (.int .u32 im) (.pointer (some ⟨1, 4, none⟩)) 22 kr kr kr kr (veq_int _ _) kr ?_
       refine sq_run 1 ?_
       refine sq_sto (hq [some ⟨[Value.int .i64 op, .int .i64 rd, .int .i64 ra, .int .i64 rb, .int .u32 im], 108, false⟩, some ⟨[Value.int .i64 op, .int .i64 rd, .int .i64 ra, .int .i64 rb, .int .u32 im], 108, false⟩, some ⟨[Value.int .i64 0, .int .i64 0, .int .i64 0, .int .i64 0, .int .u32 0], 108, false⟩, some ⟨[Value.int .i64 op, .int .i64 rd, .int .i64 0, .int .i64 0, .int .u32 0], 108, false⟩]) kr kr kr kr kr ⟨kr, kr, kr⟩ ?_
       refine sq_run 1 ?_
       refine sq_sto (hq [some ⟨[Value.int .i64 op, .int .i64 rd, .int .i64 ra, .int .i64 rb, .int .u32 im], 108, false⟩, some ⟨[Value.int .i64 op, .int .i64 rd, .int .i64 ra, .int .i64 rb, .int .u32 im], 108, false⟩, some ⟨[Value.int .i64 0, .int .i64 0, .int .i64 0, .int .i64 0, .int .u32 0], 108, false⟩, some ⟨[Value.int .i64 op, .int .i64 rd, .int .i64 ra, .int .i64 0, .int .u32 0], 108, false⟩]) kr kr kr kr kr ⟨kr, kr, kr⟩ ?_
       refine sq_run 2 ?_
       refine sq_end kr ?_
       refine sd_run 28 ?_
       rcases Bool.eq_false_or_eq_true (((op : Int) == op) && (((rd : Int) == rd) && (((ra : Int) == ra) && (((0 : Int) == rb) && (((im : Int) == im) && true))))) with hc19 | hc19
       ·skip
        refine sd_see 16 (.bool true) (see_bool kr hc19) (sd_run 2 (sd_ask 19 (.bool (regB rd)) 107 #[.int .i64 rd] kr kr kr rfl (sd_run 2 ?_)))
        rcases Bool.eq_false_or_eq_true (regB rd) with hc20 | hc20
        ·skip
         refine sd_see 21 (.bool true) (see_bool kr hc20) (sd_run 2 (sd_ask 24 (.bool (regB ra)) 107 #[.int .i64 ra] kr kr kr rfl (sd_run 2 ?_)))
         rcases Bool.eq_false_or_eq_true (regB ra) with hc21 | hc21
         ·skip
          refine sd_see 26 (.bool true) (see_bool kr hc21) (sd_run 2 (sd_ask 29 (.bool (regB rb)) 107 #[.int .i64 rb] kr kr kr rfl (sd_run 5 ?_)))
          simp only [bd] at hc1 hc5 hc9 hc13 hc14 hc18 hc19 hc20 hc21
          refine sdY (.bool (regB rb)) hX [] [] True.intro ⟨(by unfold hrB; congr 1; simp [*] <;> first | omega | (intros; simp_all; done) | (intros; simp_all; omega)), rfl⟩
         ·skip
          refine sd_see 26 (.bool false) (see_bool kr hc21) (sd_run 8 ?_)
          simp only [bd] at hc1 hc5 hc9 hc13 hc14 hc18 hc19 hc20 hc21
          refine sdY (.bool false) hX [] [] True.intro ⟨(by congr 1; unfold hrB; simp [*] <;> first | omega | (intros; simp_all; done) | (intros; simp_all; omega)), rfl⟩
        ·skip
         refine sd_see 21 (.bool false) (see_bool kr hc20) (sd_run 13 ?_)
         simp only [bd] at hc1 hc5 hc9 hc13 hc14 hc18 hc19 hc20
         refine sdY (.bool false) hX [] [] True.intro ⟨(by congr 1; unfold hrB; simp [*] <;> first | omega | (intros; simp_all; done) | (intros; simp_all; omega)), rfl⟩
       ·skip
        refine sd_see 16 (.bool false) (see_bool kr hc19) (sd_run 18 ?_)
        simp only [bd] at hc1 hc5 hc9 hc13 hc14 hc18 hc19
        refine sdY (.bool false) hX [] [] True.intro ⟨(by congr 1; unfold hrB; simp [*] <;> first | omega | (intros; simp_all; done) | (intros; simp_all; omega)), rfl⟩
      ·skip
       refine sd_see 51 (.bool false) (see_bool kr hc18) (sd_run 9 ?_)
       rcases Bool.eq_false_or_eq_true ((op : Int) == 15) with hc22 | hc22
       ·skip
        refine sd_see 64 (.bool true) (see_bool kr hc22) (sd_run 1 (sd_drawQ [(3, 7), (5, 7), (5, 9)] kr kr ?_))
        refine sq_run 3 ?_
        refine sq_rd 71 (.int .i64 rb) (.pointer (some ⟨1, 3, none⟩)) 3 kr kr kr kr (veq_int _ _) kr ?_
        refine sq_run 1 ?_
        refine sq_rd 73 (.int .u32 im) (.pointer (some ⟨1, 4, none⟩)) 22 kr kr kr kr (veq_int _ _) kr ?_
        refine sq_run 1 ?_
        refine sq_sto (hq [some ⟨[Value.int .i64 op, .int .i64 rd, .int .i64 ra, .int .i64 rb, .int .u32 im], 108, false⟩, some ⟨[Value.int .i64 op, .int .i64 rd, .int .i64 ra, .int .i64 rb, .int .u32 im], 108, false⟩, some ⟨[Value.int .i64 0, .int .i64 0, .int .i64 0, .int .i64 0, .int .u32 0], 108, false⟩, some ⟨[Value.int .i64 op, .int .i64 0, .int .i64 ra, .int .i64 0, .int .u32 0], 108, false⟩]) kr kr kr kr kr ⟨kr, kr, kr⟩ ?_
        refine sq_run 1 ?_
        refine sq_sto (hq [some ⟨[Value.int .i64 op, .int .i64 rd, .int .i64 ra, .int .i64 rb, .int .u32 im], 108, false⟩, some ⟨[Value.int .i64 op, .int .i64 rd, .int .i64 ra, .int .i64 rb, .int .u32 im], 108, false⟩, some ⟨[Value.int .i64 0, .int .i64 0, .int .i64 0, .int .i64 0, .int .u32 0], 108, false⟩, some ⟨[Value.int .i64 op, .int .i64 0, .int .i64 ra, .int .i64 rb, .int .u32 0], 108, false⟩]) kr kr kr kr kr ⟨kr, kr, kr⟩ ?_
        refine sq_run 2 ?_
        refine sq_end kr ?_
        refine sd_run 28 ?_
        rcases Bool.eq_false_or_eq_true (((op : Int) == op) && (((0 : Int) == rd) && (((ra : Int) == ra) && (((rb : Int) == rb) && (((im : Int) == im) && true))))) with hc23 | hc23
        ·skip
         refine sd_see 16 (.bool true) (see_bool kr hc23) (sd_run 2 (sd_ask 19 (.bool (regB rd)) 107 #[.int .i64 rd] kr kr kr rfl (sd_run 2 ?_)))
         rcases Bool.eq_false_or_eq_true (regB rd) with hc24 | hc24
         ·skip
          refine sd_see 21 (.bool true) (see_bool kr hc24) (sd_run 2 (sd_ask 24 (.bool (regB ra)) 107 #[.int .i64 ra] kr kr kr rfl (sd_run 2 ?_)))
          rcases Bool.eq_false_or_eq_true (regB ra) with hc25 | hc25
          ·skip
           refine sd_see 26 (.bool true) (see_bool kr hc25) (sd_run 2 (sd_ask 29 (.bool (regB rb)) 107 #[.int .i64 rb] kr kr kr rfl (sd_run 5 ?_)))
           simp only [bd] at hc1 hc5 hc9 hc13 hc14 hc18 hc22 hc23 hc24 hc25
           refine sdY (.bool (regB rb)) hX [] [] True.intro ⟨(by unfold hrB; congr 1; simp [*] <;> first | omega | (intros; simp_all; done) | (intros; simp_all; omega)), rfl⟩
          ·skip
           refine sd_see 26 (.bool false) (see_bool kr hc25) (sd_run 8 ?_)
           simp only [bd] at hc1 hc5 hc9 hc13 hc14 hc18 hc22 hc23 hc24 hc25
           refine sdY (.bool false) hX [] [] True.intro ⟨(by congr 1; unfold hrB; simp [*] <;> first | omega | (intros; simp_all; done) | (intros; simp_all; omega)), rfl⟩
         ·skip
          refine sd_see 21 (.bool false) (see_bool kr hc24) (sd_run 13 ?_)
          simp only [bd] at hc1 hc5 hc9 hc13 hc14 hc18 hc22 hc23 hc24
          refine sdY (.bool false) hX [] [] True.intro ⟨(by congr 1; unfold hrB; simp [*] <;> first | omega | (intros; simp_all; done) | (intros; simp_all; omega)), rfl⟩
        ·skip
         refine sd_see 16 (.bool false) (see_bool kr hc23) (sd_run 18 ?_)
         simp only [bd] at hc1 hc5 hc9 hc13 hc14 hc18 hc22 hc23
         refine sdY (.bool false) hX [] [] True.intro ⟨(by congr 1; unfold hrB; simp [*] <;> first | omega | (intros; simp_all; done) | (intros; simp_all; omega)), rfl⟩
       ·skip
        refine sd_see 64 (.bool false) (see_bool kr hc22) (sd_run 7 ?_)
        rcases Bool.eq_false_or_eq_true ((op : Int) == 16) with hc26 | hc26
        ·skip
         refine sd_see 81 (.bool true) (see_bool kr hc26) (sd_run 8 (sd_drawQ [(3, 5)] kr kr ?_))
         refine sq_run 3 ?_
         refine sq_rd 89 (.int .u32 im) (.pointer (some ⟨1, 4, none⟩)) 22 kr kr kr kr (veq_int _ _) kr ?_
         refine sq_run 1 ?_
         refine sq_sto (hq [some ⟨[Value.int .i64 op, .int .i64 rd, .int .i64 ra, .int .i64 rb, .int .u32 im], 108, false⟩, some ⟨[Value.int .i64 op, .int .i64 rd, .int .i64 ra, .int .i64 rb, .int .u32 im], 108, false⟩, some ⟨[Value.int .i64 0, .int .i64 0, .int .i64 0, .int .i64 0, .int .u32 0], 108, false⟩, some ⟨[Value.int .i64 op, .int .i64 0, .int .i64 ra, .int .i64 0, .int .u32 0], 108, false⟩]) kr kr kr kr kr ⟨kr, kr, kr⟩ ?_
         refine sq_run 2 ?_
         refine sq_end kr ?_
         refine sd_run 28 ?_
         rcases Bool.eq_false_or_eq_true (((op : Int) == op) && (((0 : Int) == rd) && (((ra : Int) == ra) && (((0 : Int) == rb) && (((im : Int) == im) && true))))) with hc27 | hc27
         ·skip
          refine sd_see 16 (.bool true) (see_bool kr hc27) (sd_run 2 (sd_ask 19 (.bool (regB rd)) 107 #[.int .i64 rd] kr kr kr rfl (sd_run 2 ?_)))
          rcases Bool.eq_false_or_eq_true (regB rd) with hc28 | hc28
          ·skip
           refine sd_see 21 (.bool true) (see_bool kr hc28) (sd_run 2 (sd_ask 24 (.bool (regB ra)) 107 #[.int .i64 ra] kr kr kr rfl (sd_run 2 ?_)))
           rcases Bool.eq_false_or_eq_true (regB ra) with hc29 | hc29
           ·skip
            refine sd_see 26 (.bool true) (see_bool kr hc29) (sd_run 2 (sd_ask 29 (.bool (regB rb)) 107 #[.int .i64 rb] kr kr kr rfl (sd_run 5 ?_)))
            simp only [bd] at hc1 hc5 hc9 hc13 hc14 hc18 hc22 hc26 hc27 hc28 hc29
            refine sdY (.bool (regB rb)) hX [] [] True.intro ⟨(by unfold hrB; congr 1; simp [*] <;> first | omega | (intros; simp_all; done) | (intros; simp_all; omega)), rfl⟩
           ·skip
            refine sd_see 26 (.bool false) (see_bool kr hc29) (sd_run 8 ?_)
            simp only [bd] at hc1 hc5 hc9 hc13 hc14 hc18 hc22 hc26 hc27 hc28 hc29
            refine sdY (.bool false) hX [] [] True.intro ⟨(by congr 1; unfold hrB; simp [*] <;> first | omega | (intros; simp_all; done) | (intros; simp_all; omega)), rfl⟩
          ·skip
           refine sd_see 21 (.bool false) (see_bool kr hc28) (sd_run 13 ?_)
           simp only [bd] at hc1 hc5 hc9 hc13 hc14 hc18 hc22 hc26 hc27 hc28
           refine sdY (.bool false) hX [] [] True.intro ⟨(by congr 1; unfold hrB; simp [*] <;> first | omega | (intros; simp_all; done) | (intros; simp_all; omega)), rfl⟩
         ·skip
          refine sd_see 16 (.bool false) (see_bool kr hc27) (sd_run 18 ?_)
          simp only [bd] at hc1 hc5 hc9 hc13 hc14 hc18 hc22 hc26 hc27
          refine sdY (.bool false) hX [] [] True.intro ⟨(by congr 1; unfold hrB; simp [*] <;> first | omega | (intros; simp_all; done) | (intros; simp_all; omega)), rfl⟩
        ·skip
         refine sd_see 81 (.bool false) (see_bool kr hc26) (sd_run 7 ?_)
         rcases Bool.eq_false_or_eq_true ((op : Int) == 17) with hc30 | hc30
         ·skip
          refine sd_see 77 (.bool true) (see_bool kr hc30) (sd_run 1 (sd_drawQ [(3, 5)] kr kr ?_))
          refine sq_run 3 ?_
          refine sq_rd 89 (.int .u32 im) (.pointer (some ⟨1, 4, none⟩)) 22 kr kr kr kr (veq_int _ _) kr ?_
          refine sq_run 1 ?_
          refine sq_sto (hq [some ⟨[Value.int .i64 op, .int .i64 rd, .int .i64 ra, .int .i64 rb, .int .u32 im], 108, false⟩, some ⟨[Value.int .i64 op, .int .i64 rd, .int .i64 ra, .int .i64 rb, .int .u32 im], 108, false⟩, some ⟨[Value.int .i64 0, .int .i64 0, .int .i64 0, .int .i64 0, .int .u32 0], 108, false⟩, some ⟨[Value.int .i64 op, .int .i64 0, .int .i64 ra, .int .i64 0, .int .u32 0], 108, false⟩]) kr kr kr kr kr ⟨kr, kr, kr⟩ ?_
          refine sq_run 2 ?_
          refine sq_end kr ?_
          refine sd_run 28 ?_
          rcases Bool.eq_false_or_eq_true (((op : Int) == op) && (((0 : Int) == rd) && (((ra : Int) == ra) && (((0 : Int) == rb) && (((im : Int) == im) && true))))) with hc31 | hc31
          ·skip
           refine sd_see 16 (.bool true) (see_bool kr hc31) (sd_run 2 (sd_ask 19 (.bool (regB rd)) 107 #[.int .i64 rd] kr kr kr rfl (sd_run 2 ?_)))
           rcases Bool.eq_false_or_eq_true (regB rd) with hc32 | hc32
           ·skip
            refine sd_see 21 (.bool true) (see_bool kr hc32) (sd_run 2 (sd_ask 24 (.bool (regB ra)) 107 #[.int .i64 ra] kr kr kr rfl (sd_run 2 ?_)))
            rcases Bool.eq_false_or_eq_true (regB ra) with hc33 | hc33
            ·skip
             refine sd_see 26 (.bool true) (see_bool kr hc33) (sd_run 2 (sd_ask 29 (.bool (regB rb)) 107 #[.int .i64 rb] kr kr kr rfl (sd_run 5 ?_)))
             simp only [bd] at hc1 hc5 hc9 hc13 hc14 hc18 hc22 hc26 hc30 hc31 hc32 hc33
             refine sdY (.bool (regB rb)) hX [] [] True.intro ⟨(by unfold hrB; congr 1; simp [*] <;> first | omega | (intros; simp_all; done) | (intros; simp_all; omega)), rfl⟩
            ·skip
             refine sd_see 26 (.bool false) (see_bool kr hc33) (sd_run 8 ?_)
             simp only [bd] at hc1 hc5 hc9 hc13 hc14 hc18 hc22 hc26 hc30 hc31 hc32 hc33
             refine sdY (.bool false) hX [] [] True.intro ⟨(by congr 1; unfold hrB; simp [*] <;> first | omega | (intros; simp_all; done) | (intros; simp_all; omega)), rfl⟩
           ·skip
            refine sd_see 21 (.bool false) (see_bool kr hc32) (sd_run 13 ?_)
            simp only [bd] at hc1 hc5 hc9 hc13 hc14 hc18 hc22 hc26 hc30 hc31 hc32
            refine sdY (.bool false) hX [] [] True.intro ⟨(by congr 1; unfold hrB; simp [*] <;> first | omega | (intros; simp_all; done) | (intros; simp_all; omega)), rfl⟩
          ·skip
           refine sd_see 16 (.bool false) (see_bool kr hc31) (sd_run 18 ?_)
           simp only [bd] at hc1 hc5 hc9 hc13 hc14 hc18 hc22 hc26 hc30 hc31
           refine sdY (.bool false) hX [] [] True.intro ⟨(by congr 1; unfold hrB; simp [*] <;> first | omega | (intros; simp_all; done) | (intros; simp_all; omega)), rfl⟩
         ·skip
          refine sd_see 77 (.bool false) (see_bool kr hc30) (sd_run 7 ?_)
          rcases Bool.eq_false_or_eq_true ((op : Int) == 18) with hc34 | hc34
          ·skip
           refine sd_see 96 (.bool true) (see_bool kr hc34) (sd_run 42 ?_)
           rcases Bool.eq_false_or_eq_true (((op : Int) == op) && (((0 : Int) == rd) && (((0 : Int) == ra) && (((0 : Int) == rb) && (((im : Int) == im) && true))))) with hc35 | hc35
           ·skip
            refine sd_see 16 (.bool true) (see_bool kr hc35) (sd_run 2 (sd_ask 19 (.bool (regB rd)) 107 #[.int .i64 rd] kr kr kr rfl (sd_run 2 ?_)))
            rcases Bool.eq_false_or_eq_true (regB rd) with hc36 | hc36
            ·skip
             refine sd_see 21 (.bool true) (see_bool kr hc36) (sd_run 2 (sd_ask 24 (.bool (regB ra)) 107 #[.int .i64 ra] kr kr kr rfl (sd_run 2 ?_)))
             rcases Bool.eq_false_or_eq_true (regB ra) with hc37 | hc37
             ·skip
              refine sd_see 26 (.bool true) (see_bool kr hc37) (sd_run 2 (sd_ask 29 (.bool (regB rb)) 107 #[.int .i64 rb] kr kr kr rfl (sd_run 5 ?_)))
              simp only [bd] at hc1 hc5 hc9 hc13 hc14 hc18 hc22 hc26 hc30 hc34 hc35 hc36 hc37
              refine sdY (.bool (regB rb)) hX [] [] True.intro ⟨(by unfold hrB; congr 1; simp [*] <;> first | omega | (intros; simp_all; done) | (intros; simp_all; omega)), rfl⟩
             ·skip
              refine sd_see 26 (.bool false) (see_bool kr hc37) (sd_run 8 ?_)
              simp only [bd] at hc1 hc5 hc9 hc13 hc14 hc18 hc22 hc26 hc30 hc34 hc35 hc36 hc37
              refine sdY (.bool false) hX [] [] True.intro ⟨(by congr 1; unfold hrB; simp [*] <;> first | omega | (intros; simp_all; done) | (intros; simp_all; omega)), rfl⟩
            ·skip
             refine sd_see 21 (.bool false) (see_bool kr hc36) (sd_run 13 ?_)
             simp only [bd] at hc1 hc5 hc9 hc13 hc14 hc18 hc22 hc26 hc30 hc34 hc35 hc36
             refine sdY (.bool false) hX [] [] True.intro ⟨(by congr 1; unfold hrB; simp [*] <;> first | omega | (intros; simp_all; done) | (intros; simp_all; omega)), rfl⟩
           ·skip
            refine sd_see 16 (.bool false) (see_bool kr hc35) (sd_run 18 ?_)
            simp only [bd] at hc1 hc5 hc9 hc13 hc14 hc18 hc22 hc26 hc30 hc34 hc35
            refine sdY (.bool false) hX [] [] True.intro ⟨(by congr 1; unfold hrB; simp [*] <;> first | omega | (intros; simp_all; done) | (intros; simp_all; omega)), rfl⟩
          ·skip
           refine sd_see 96 (.bool false) (see_bool kr hc34) (sd_run 7 ?_)
           rcases Bool.eq_false_or_eq_true ((op : Int) == 19) with hc38 | hc38
           ·skip
            refine sd_see 92 (.bool true) (see_bool kr hc38) (sd_run 35 ?_)
            rcases Bool.eq_false_or_eq_true (((op : Int) == op) && (((0 : Int) == rd) && (((0 : Int) == ra) && (((0 : Int) == rb) && (((im : Int) == im) && true))))) with hc39 | hc39
            ·skip
             refine sd_see 16 (.bool true) (see_bool kr hc39) (sd_run 2 (sd_ask 19 (.bool (regB rd)) 107 #[.int .i64 rd] kr kr kr rfl (sd_run 2 ?_)))
             rcases Bool.eq_false_or_eq_true (regB rd) with hc40 | hc40
             ·skip
              refine sd_see 21 (.bool true) (see_bool kr hc40) (sd_run 2 (sd_ask 24 (.bool (regB ra)) 107 #[.int .i64 ra] kr kr kr rfl (sd_run 2 ?_)))
              rcases Bool.eq_false_or_eq_true (regB ra) with hc41 | hc41
              ·skip
               refine sd_see 26 (.bool true) (see_bool kr hc41) (sd_run 2 (sd_ask 29 (.bool (regB rb)) 107 #[.int .i64 rb] kr kr kr rfl (sd_run 5 ?_)))
               simp only [bd] at hc1 hc5 hc9 hc13 hc14 hc18 hc22 hc26 hc30 hc34 hc38 hc39 hc40 hc41
               refine sdY (.bool (regB rb)) hX [] [] True.intro ⟨(by unfold hrB; congr 1; simp [*] <;> first | omega | (intros; simp_all; done) | (intros; simp_all; omega)), rfl⟩
              ·skip
               refine sd_see 26 (.bool false) (see_bool kr hc41) (sd_run 8 ?_)
               simp only [bd] at hc1 hc5 hc9 hc13 hc14 hc18 hc22 hc26 hc30 hc34 hc38 hc39 hc40 hc41
               refine sdY (.bool false) hX [] [] True.intro ⟨(by congr 1; unfold hrB; simp [*] <;> first | omega | (intros; simp_all; done) | (intros; simp_all; omega)), rfl⟩
             ·skip
              refine sd_see 21 (.bool false) (see_bool kr hc40) (sd_run 13 ?_)
              simp only [bd] at hc1 hc5 hc9 hc13 hc14 hc18 hc22 hc26 hc30 hc34 hc38 hc39 hc40
              refine sdY (.bool false) hX [] [] True.intro ⟨(by congr 1; unfold hrB; simp [*] <;> first | omega | (intros; simp_all; done) | (intros; simp_all; omega)), rfl⟩
            ·skip
             refine sd_see 16 (.bool false) (see_bool kr hc39) (sd_run 18 ?_)
             simp only [bd] at hc1 hc5 hc9 hc13 hc14 hc18 hc22 hc26 hc30 hc34 hc38 hc39
             refine sdY (.bool false) hX [] [] True.intro ⟨(by congr 1; unfold hrB; simp [*] <;> first | omega | (intros; simp_all; done) | (intros; simp_all; omega)), rfl⟩
           ·skip
            refine sd_see 92 (.bool false) (see_bool kr hc38) (sd_run 47 ?_)
            simp only [bd] at hc1 hc5 hc9 hc13 hc14 hc18 hc22 hc26 hc30 hc34 hc38
            refine sdY (.bool false) hX [] [] True.intro ⟨(by congr 1; unfold hrB; simp [*] <;> first | omega | (intros; simp_all; done) | (intros; simp_all; omega)), rfl⟩
    ·skip
     refine sd_see 37 (.bool false) (see_bool kr hc13) (sd_run 16 ?_)
     rcases Bool.eq_false_or_eq_true ((op : Int) == 14) with hc42 | hc42
     ·skip
      refine sd_see 51 (.bool true) (see_bool kr hc42) (sd_run 1 (sd_drawQ [(3, 7), (5, 7), (5, 9)] kr kr ?_))
      refine sq_run 3 ?_
      refine sq_rd 58 (.int .i64 ra) (.pointer (some ⟨1, 2, none⟩)) 3 kr kr kr kr (veq_int _ _) kr ?_
      refine sq_run 1 ?_
      refine sq_rd 60 (.int .u32 im) (.pointer (some ⟨1, 4, none⟩)) 22 kr kr kr kr (veq_int _ _) kr ?_
      refine sq_run 1 ?_
      refine sq_sto (hq [some ⟨[Value.int .i64 op, .int .i64 rd, .int .i64 ra, .int .i64 rb, .int .u32 im], 108, false⟩, some ⟨[Value.int .i64 op, .int .i64 rd, .int .i64 ra, .int .i64 rb, .int .u32 im], 108, false⟩, some ⟨[Value.int .i64 0, .int .i64 0, .int .i64 0, .int .i64 0, .int .u32 0], 108, false⟩, some ⟨[Value.int .i64 op, .int .i64 rd, .int .i64 0, .int .i64 0, .int .u32 0], 108, false⟩]) kr kr kr kr kr ⟨kr, kr, kr⟩ ?_
      refine sq_run 1 ?_
      refine sq_sto (hq [some ⟨[Value.int .i64 op, .int .i64 rd, .int .i64 ra, .int .i64 rb, .int .u32 im], 108, false⟩, some ⟨[Value.int .i64 op, .int .i64 rd, .int .i64 ra, .int .i64 rb, .int .u32 im], 108, false⟩, some ⟨[Value.int .i64 0, .int .i64 0, .int .i64 0, .int .i64 0, .int .u32 0], 108, false⟩, some ⟨[Value.int .i64 op, .int .i64 rd, .int .i64 ra, .int .i64 0, .int .u32 0], 108, false⟩]) kr kr kr kr kr ⟨kr, kr, kr⟩ ?_
      refine sq_run 2 ?_
      refine sq_end kr ?_
      refine sd_run 28 ?_
      rcases Bool.eq_false_or_eq_true (((op : Int) == op) && (((rd : Int) == rd) && (((ra : Int) == ra) && (((0 : Int) == rb) && (((im : Int) == im) && true))))) with hc43 | hc43
      ·skip
       refine sd_see 16 (.bool true) (see_bool kr hc43) (sd_run 2 (sd_ask 19 (.bool (regB rd)) 107 #[.int .i64 rd] kr kr kr rfl (sd_run 2 ?_)))
       rcases Bool.eq_false_or_eq_true (regB rd) with hc44 | hc44
       ·skip
        refine sd_see 21 (.bool true) (see_bool kr hc44) (sd_run 2 (sd_ask 24 (.bool (regB ra)) 107 #[.int .i64 ra] kr kr kr rfl (sd_run 2 ?_)))
        rcases Bool.eq_false_or_eq_true (regB ra) with hc45 | hc45
        ·skip
         refine sd_see 26 (.bool true) (see_bool kr hc45) (sd_run 2 (sd_ask 29 (.bool (regB rb)) 107 #[.int .i64 rb] kr kr kr rfl (sd_run 5 ?_)))
         simp only [bd] at hc1 hc5 hc9 hc13 hc42 hc43 hc44 hc45
         refine sdY (.bool (regB rb)) hX [] [] True.intro ⟨(by unfold hrB; congr 1; simp [*] <;> first | omega | (intros; simp_all; done) | (intros; simp_all; omega)), rfl⟩
        ·skip
         refine sd_see 26 (.bool false) (see_bool kr hc45) (sd_run 8 ?_)
         simp only [bd] at hc1 hc5 hc9 hc13 hc42 hc43 hc44 hc45
         refine sdY (.bool false) hX [] [] True.intro ⟨(by congr 1; unfold hrB; simp [*] <;> first | omega | (intros; simp_all; done) | (intros; simp_all; omega)), rfl⟩
       ·skip
        refine sd_see 21 (.bool false) (see_bool kr hc44) (sd_run 13 ?_)
        simp only [bd] at hc1 hc5 hc9 hc13 hc42 hc43 hc44
        refine sdY (.bool false) hX [] [] True.intro ⟨(by congr 1; unfold hrB; simp [*] <;> first | omega | (intros; simp_all; done) | (intros; simp_all; omega)), rfl⟩
      ·skip
       refine sd_see 16 (.bool false) (see_bool kr hc43) (sd_run 18 ?_)
       simp only [bd] at hc1 hc5 hc9 hc13 hc42 hc43
       refine sdY (.bool false) hX [] [] True.intro ⟨(by congr 1; unfold hrB; simp [*] <;> first | omega | (intros; simp_all; done) | (intros; simp_all; omega)), rfl⟩
     ·skip
      refine sd_see 51 (.bool false) (see_bool kr hc42) (sd_run 9 ?_)
      rcases Bool.eq_false_or_eq_true ((op : Int) == 15) with hc46 | hc46
      ·skip
       refine sd_see 64 (.bool true) (see_bool kr hc46) (sd_run 1 (sd_drawQ [(3, 7), (5, 7), (5, 9)] kr kr ?_))
       refine sq_run 3 ?_
       refine sq_rd 71 (.int .i64 rb) (.pointer (some ⟨1, 3, none⟩)) 3 kr kr kr kr (veq_int _ _) kr ?_
       refine sq_run 1 ?_
       refine sq_rd 73 (.int .u32 im) (.pointer (some ⟨1, 4, none⟩)) 22 kr kr kr kr (veq_int _ _) kr ?_
       refine sq_run 1 ?_
       refine sq_sto (hq [some ⟨[Value.int .i64 op, .int .i64 rd, .int .i64 ra, .int .i64 rb, .int .u32 im], 108, false⟩, some ⟨[Value.int .i64 op, .int .i64 rd, .int .i64 ra, .int .i64 rb, .int .u32 im], 108, false⟩, some ⟨[Value.int .i64 0, .int .i64 0, .int .i64 0, .int .i64 0, .int .u32 0], 108, false⟩, some ⟨[Value.int .i64 op, .int .i64 0, .int .i64 ra, .int .i64 0, .int .u32 0], 108, false⟩]) kr kr kr kr kr ⟨kr, kr, kr⟩ ?_
       refine sq_run 1 ?_
       refine sq_sto (hq [some ⟨[Value.int .i64 op, .int .i64 rd, .int .i64 ra, .int .i64 rb, .int .u32 im], 108, false⟩, some ⟨[Value.int .i64 op, .int .i64 rd, .int .i64 ra, .int .i64 rb, .int .u32 im], 108, false⟩, some ⟨[Value.int .i64 0, .int .i64 0, .int .i64 0, .int .i64 0, .int .u32 0], 108, false⟩, some ⟨[Value.int .i64 op, .int .i64 0, .int .i64 ra, .int .i64 rb, .int .u32 0], 108, false⟩]) kr kr kr kr kr ⟨kr, kr, kr⟩ ?_
       refine sq_run 2 ?_
       refine sq_end kr ?_
       refine sd_run 28 ?_
       rcases Bool.eq_false_or_eq_true (((op : Int) == op) && (((0 : Int) == rd) && (((ra : Int) == ra) && (((rb : Int) == rb) && (((im : Int) == im) && true))))) with hc47 | hc47
       ·skip
        refine sd_see 16 (.bool true) (see_bool kr hc47) (sd_run 2 (sd_ask 19 (.bool (regB rd)) 107 #[.int .i64 rd] kr kr kr rfl (sd_run 2 ?_)))
        rcases Bool.eq_false_or_eq_true (regB rd) with hc48 | hc48
        ·skip
         refine sd_see 21 (.bool true) (see_bool kr hc48) (sd_run 2 (sd_ask 24 (.bool (regB ra)) 107 #[.int .i64 ra] kr kr kr rfl (sd_run 2 ?_)))
         rcases Bool.eq_false_or_eq_true (regB ra) with hc49 | hc49
         ·skip
          refine sd_see 26 (.bool true) (see_bool kr hc49) (sd_run 2 (sd_ask 29 (.bool (regB rb)) 107 #[.int .i64 rb] kr kr kr rfl (sd_run 5 ?_)))
          simp only [bd] at hc1 hc5 hc9 hc13 hc42 hc46 hc47 hc48 hc49
          refine sdY (.bool (regB rb)) hX [] [] True.intro ⟨(by unfold hrB; congr 1; simp [*] <;> first | omega | (intros; simp_all; done) | (intros; simp_all; omega)), rfl⟩
         ·skip
          refine sd_see 26 (.bool false) (see_bool kr hc49) (sd_run 8 ?_)
          simp only [bd] at hc1 hc5 hc9 hc13 hc42 hc46 hc47 hc48 hc49
          refine sdY (.bool false) hX [] [] True.intro ⟨(by congr 1; unfold hrB; simp [*] <;> first | omega | (intros; simp_all; done) | (intros; simp_all; omega)), rfl⟩
        ·skip
         refine sd_see 21 (.bool false) (see_bool kr hc48) (sd_run 13 ?_)
         simp only [bd] at hc1 hc5 hc9 hc13 hc42 hc46 hc47 hc48
         refine sdY (.bool false) hX [] [] True.intro ⟨(by congr 1; unfold hrB; simp [*] <;> first | omega | (intros; simp_all; done) | (intros; simp_all; omega)), rfl⟩
       ·skip
        refine sd_see 16 (.bool false) (see_bool kr hc47) (sd_run 18 ?_)
        simp only [bd] at hc1 hc5 hc9 hc13 hc42 hc46 hc47
        refine sdY (.bool false) hX [] [] True.intro ⟨(by congr 1; unfold hrB; simp [*] <;> first | omega | (intros; simp_all; done) | (intros; simp_all; omega)), rfl⟩
      ·skip
       refine sd_see 64 (.bool false) (see_bool kr hc46) (sd_run 7 ?_)
       rcases Bool.eq_false_or_eq_true ((op : Int) == 16) with hc50 | hc50
       ·skip
        refine sd_see 81 (.bool true) (see_bool kr hc50) (sd_run 8 (sd_drawQ [(3, 5)] kr kr ?_))
        refine sq_run 3 ?_
        refine sq_rd 89 (.int .u32 im) (.pointer (some ⟨1, 4, none⟩)) 22 kr kr kr kr (veq_int _ _) kr ?_
        refine sq_run 1 ?_
        refine sq_sto (hq [some ⟨[Value.int .i64 op, .int .i64 rd, .int .i64 ra, .int .i64 rb, .int .u32 im], 108, false⟩, some ⟨[Value.int .i64 op, .int .i64 rd, .int .i64 ra, .int .i64 rb, .int .u32 im], 108, false⟩, some ⟨[Value.int .i64 0, .int .i64 0, .int .i64 0, .int .i64 0, .int .u32 0], 108, false⟩, some ⟨[Value.int .i64 op, .int .i64 0, .int .i64 ra, .int .i64 0, .int .u32 0], 108, false⟩]) kr kr kr kr kr ⟨kr, kr, kr⟩ ?_
        refine sq_run 2 ?_
        refine sq_end kr ?_
        refine sd_run 28 ?_
        rcases Bool.eq_false_or_eq_true (((op : Int) == op) && (((0 : Int) == rd) && (((ra : Int) == ra) && (((0 : Int) == rb) && (((im : Int) == im) && true))))) with hc51 | hc51
        ·skip
         refine sd_see 16 (.bool true) (see_bool kr hc51) (sd_run 2 (sd_ask 19 (.bool (regB rd)) 107 #[.int .i64 rd] kr kr kr rfl (sd_run 2 ?_)))
         rcases Bool.eq_false_or_eq_true (regB rd) with hc52 | hc52
         ·skip
          refine sd_see 21 (.bool true) (see_bool kr hc52) (sd_run 2 (sd_ask 24 (.bool (regB ra)) 107 #[.int .i64 ra] kr kr kr rfl (sd_run 2 ?_)))
          rcases Bool.eq_false_or_eq_true (regB ra) with hc53 | hc53
          ·skip
           refine sd_see 26 (.bool true) (see_bool kr hc53) (sd_run 2 (sd_ask 29 (.bool (regB rb)) 107 #[.int .i64 rb] kr kr kr rfl (sd_run 5 ?_)))
           simp only [bd] at hc1 hc5 hc9 hc13 hc42 hc46 hc50 hc51 hc52 hc53
           refine sdY (.bool (regB rb)) hX [] [] True.intro ⟨(by unfold hrB; congr 1; simp [*] <;> first | omega | (intros; simp_all; done) | (intros; simp_all; omega)), rfl⟩
          ·skip
           refine sd_see 26 (.bool false) (see_bool kr hc53) (sd_run 8 ?_)
           simp only [bd] at hc1 hc5 hc9 hc13 hc42 hc46 hc50 hc51 hc52 hc53
           refine sdY (.bool false) hX [] [] True.intro ⟨(by congr 1; unfold hrB; simp [*] <;> first | omega | (intros; simp_all; done) | (intros; simp_all; omega)), rfl⟩
         ·skip
          refine sd_see 21 (.bool false) (see_bool kr hc52) (sd_run 13 ?_)
          simp only [bd] at hc1 hc5 hc9 hc13 hc42 hc46 hc50 hc51 hc52
          refine sdY (.bool false) hX [] [] True.intro ⟨(by congr 1; unfold hrB; simp [*] <;> first | omega | (intros; simp_all; done) | (intros; simp_all; omega)), rfl⟩
        ·skip
         refine sd_see 16 (.bool false) (see_bool kr hc51) (sd_run 18 ?_)
         simp only [bd] at hc1 hc5 hc9 hc13 hc42 hc46 hc50 hc51
         refine sdY (.bool false) hX [] [] True.intro ⟨(by congr 1; unfold hrB; simp [*] <;> first | omega | (intros; simp_all; done) | (intros; simp_all; omega)), rfl⟩
       ·skip
        refine sd_see 81 (.bool false) (see_bool kr hc50) (sd_run 7 ?_)
        rcases Bool.eq_false_or_eq_true ((op : Int) == 17) with hc54 | hc54
        ·skip
         refine sd_see 77 (.bool true) (see_bool kr hc54) (sd_run 1 (sd_drawQ [(3, 5)] kr kr ?_))
         refine sq_run 3 ?_
         refine sq_rd 89 (.int .u32 im) (.pointer (some ⟨1, 4, none⟩)) 22 kr kr kr kr (veq_int _ _) kr ?_
         refine sq_run 1 ?_
         refine sq_sto (hq [some ⟨[Value.int .i64 op, .int .i64 rd, .int .i64 ra, .int .i64 rb, .int .u32 im], 108, false⟩, some ⟨[Value.int .i64 op, .int .i64 rd, .int .i64 ra, .int .i64 rb, .int .u32 im], 108, false⟩, some ⟨[Value.int .i64 0, .int .i64 0, .int .i64 0, .int .i64 0, .int .u32 0], 108, false⟩, some ⟨[Value.int .i64 op, .int .i64 0, .int .i64 ra, .int .i64 0, .int .u32 0], 108, false⟩]) kr kr kr kr kr ⟨kr, kr, kr⟩ ?_
         refine sq_run 2 ?_
         refine sq_end kr ?_
         refine sd_run 28 ?_
         rcases Bool.eq_false_or_eq_true (((op : Int) == op) && (((0 : Int) == rd) && (((ra : Int) == ra) && (((0 : Int) == rb) && (((im : Int) == im) && true))))) with hc55 | hc55
         ·skip
          refine sd_see 16 (.bool true) (see_bool kr hc55) (sd_run 2 (sd_ask 19 (.bool (regB rd)) 107 #[.int .i64 rd] kr kr kr rfl (sd_run 2 ?_)))
          rcases Bool.eq_false_or_eq_true (regB rd) with hc56 | hc56
          ·skip
           refine sd_see 21 (.bool true) (see_bool kr hc56) (sd_run 2 (sd_ask 24 (.bool (regB ra)) 107 #[.int .i64 ra] kr kr kr rfl (sd_run 2 ?_)))
           rcases Bool.eq_false_or_eq_true (regB ra) with hc57 | hc57
           ·skip
            refine sd_see 26 (.bool true) (see_bool kr hc57) (sd_run 2 (sd_ask 29 (.bool (regB rb)) 107 #[.int .i64 rb] kr kr kr rfl (sd_run 5 ?_)))
            simp only [bd] at hc1 hc5 hc9 hc13 hc42 hc46 hc50 hc54 hc55 hc56 hc57
            refine sdY (.bool (regB rb)) hX [] [] True.intro ⟨(by unfold hrB; congr 1; simp [*] <;> first | omega | (intros; simp_all; done) | (intros; simp_all; omega)), rfl⟩
           ·skip
            refine sd_see 26 (.bool false) (see_bool kr hc57) (sd_run 8 ?_)
            simp only [bd] at hc1 hc5 hc9 hc13 hc42 hc46 hc50 hc54 hc55 hc56 hc57
            refine sdY (.bool false) hX [] [] True.intro ⟨(by congr 1; unfold hrB; simp [*] <;> first | omega | (intros; simp_all; done) | (intros; simp_all; omega)), rfl⟩
          ·skip
           refine sd_see 21 (.bool false) (see_bool kr hc56) (sd_run 13 ?_)
           simp only [bd] at hc1 hc5 hc9 hc13 hc42 hc46 hc50 hc54 hc55 hc56
           refine sdY (.bool false) hX [] [] True.intro ⟨(by congr 1; unfold hrB; simp [*] <;> first | omega | (intros; simp_all; done) | (intros; simp_all; omega)), rfl⟩
         ·skip
          refine sd_see 16 (.bool false) (see_bool kr hc55) (sd_run 18 ?_)
          simp only [bd] at hc1 hc5 hc9 hc13 hc42 hc46 hc50 hc54 hc55
          refine sdY (.bool false) hX [] [] True.intro ⟨(by congr 1; unfold hrB; simp [*] <;> first | omega | (intros; simp_all; done) | (intros; simp_all; omega)), rfl⟩
        ·skip
         refine sd_see 77 (.bool false) (see_bool kr hc54) (sd_run 7 ?_)
         rcases Bool.eq_false_or_eq_true ((op : Int) == 18) with hc58 | hc58
         ·skip
          refine sd_see 96 (.bool true) (see_bool kr hc58) (sd_run 42 ?_)
          rcases Bool.eq_false_or_eq_true (((op : Int) == op) && (((0 : Int) == rd) && (((0 : Int) == ra) && (((0 : Int) == rb) && (((im : Int) == im) && true))))) with hc59 | hc59
          ·skip
           refine sd_see 16 (.bool true) (see_bool kr hc59) (sd_run 2 (sd_ask 19 (.bool (regB rd)) 107 #[.int .i64 rd] kr kr kr rfl (sd_run 2 ?_)))
           rcases Bool.eq_false_or_eq_true (regB rd) with hc60 | hc60
           ·skip
            refine sd_see 21 (.bool true) (see_bool kr hc60) (sd_run 2 (sd_ask 24 (.bool (regB ra)) 107 #[.int .i64 ra] kr kr kr rfl (sd_run 2 ?_)))
            rcases Bool.eq_false_or_eq_true (regB ra) with hc61 | hc61
            ·skip
             refine sd_see 26 (.bool true) (see_bool kr hc61) (sd_run 2 (sd_ask 29 (.bool (regB rb)) 107 #[.int .i64 rb] kr kr kr rfl (sd_run 5 ?_)))
             simp only [bd] at hc1 hc5 hc9 hc13 hc42 hc46 hc50 hc54 hc58 hc59 hc60 hc61
             refine sdY (.bool (regB rb)) hX [] [] True.intro ⟨(by unfold hrB; congr 1; simp [*] <;> first | omega | (intros; simp_all; done) | (intros; simp_all; omega)), rfl⟩
            ·skip
             refine sd_see 26 (.bool false) (see_bool kr hc61) (sd_run 8 ?_)
             simp only [bd] at hc1 hc5 hc9 hc13 hc42 hc46 hc50 hc54 hc58 hc59 hc60 hc61
             refine sdY (.bool false) hX [] [] True.intro ⟨(by congr 1; unfold hrB; simp [*] <;> first | omega | (intros; simp_all; done) | (intros; simp_all; omega)), rfl⟩
           ·skip
            refine sd_see 21 (.bool false) (see_bool kr hc60) (sd_run 13 ?_)
            simp only [bd] at hc1 hc5 hc9 hc13 hc42 hc46 hc50 hc54 hc58 hc59 hc60
            refine sdY (.bool false) hX [] [] True.intro ⟨(by congr 1; unfold hrB; simp [*] <;> first | omega | (intros; simp_all; done) | (intros; simp_all; omega)), rfl⟩
          ·skip
           refine sd_see 16 (.bool false) (see_bool kr hc59) (sd_run 18 ?_)
           simp only [bd] at hc1 hc5 hc9 hc13 hc42 hc46 hc50 hc54 hc58 hc59
           refine sdY (.bool false) hX [] [] True.intro ⟨(by congr 1; unfold hrB; simp [*] <;> first | omega | (intros; simp_all; done) | (intros; simp_all; omega)), rfl⟩
         ·skip
          refine sd_see 96 (.bool false) (see_bool kr hc58) (sd_run 7 ?_)
          rcases Bool.eq_false_or_eq_true ((op : Int) == 19) with hc62 | hc62
          ·skip
           refine sd_see 92 (.bool true) (see_bool kr hc62) (sd_run 35 ?_)
           rcases Bool.eq_false_or_eq_true (((op : Int) == op) && (((0 : Int) == rd) && (((0 : Int) == ra) && (((0 : Int) == rb) && (((im : Int) == im) && true))))) with hc63 | hc63
           ·skip
            refine sd_see 16 (.bool true) (see_bool kr hc63) (sd_run 2 (sd_ask 19 (.bool (regB rd)) 107 #[.int .i64 rd] kr kr kr rfl (sd_run 2 ?_)))
            rcases Bool.eq_false_or_eq_true (regB rd) with hc64 | hc64
            ·skip
             refine sd_see 21 (.bool true) (see_bool kr hc64) (sd_run 2 (sd_ask 24 (.bool (regB ra)) 107 #[.int .i64 ra] kr kr kr rfl (sd_run 2 ?_)))
             rcases Bool.eq_false_or_eq_true (regB ra) with hc65 | hc65
             ·skip
              refine sd_see 26 (.bool true) (see_bool kr hc65) (sd_run 2 (sd_ask 29 (.bool (regB rb)) 107 #[.int .i64 rb] kr kr kr rfl (sd_run 5 ?_)))
              simp only [bd] at hc1 hc5 hc9 hc13 hc42 hc46 hc50 hc54 hc58 hc62 hc63 hc64 hc65
              refine sdY (.bool (regB rb)) hX [] [] True.intro ⟨(by unfold hrB; congr 1; simp [*] <;> first | omega | (intros; simp_all; done) | (intros; simp_all; omega)), rfl⟩
             ·skip
              refine sd_see 26 (.bool false) (see_bool kr hc65) (sd_run 8 ?_)
              simp only [bd] at hc1 hc5 hc9 hc13 hc42 hc46 hc50 hc54 hc58 hc62 hc63 hc64 hc65
              refine sdY (.bool false) hX [] [] True.intro ⟨(by congr 1; unfold hrB; simp [*] <;> first | omega | (intros; simp_all; done) | (intros; simp_all; omega)), rfl⟩
            ·skip
             refine sd_see 21 (.bool false) (see_bool kr hc64) (sd_run 13 ?_)
             simp only [bd] at hc1 hc5 hc9 hc13 hc42 hc46 hc50 hc54 hc58 hc62 hc63 hc64
             refine sdY (.bool false) hX [] [] True.intro ⟨(by congr 1; unfold hrB; simp [*] <;> first | omega | (intros; simp_all; done) | (intros; simp_all; omega)), rfl⟩
           ·skip
            refine sd_see 16 (.bool false) (see_bool kr hc63) (sd_run 18 ?_)
            simp only [bd] at hc1 hc5 hc9 hc13 hc42 hc46 hc50 hc54 hc58 hc62 hc63
            refine sdY (.bool false) hX [] [] True.intro ⟨(by congr 1; unfold hrB; simp [*] <;> first | omega | (intros; simp_all; done) | (intros; simp_all; omega)), rfl⟩
          ·skip
           refine sd_see 92 (.bool false) (see_bool kr hc62) (sd_run 47 ?_)
           simp only [bd] at hc1 hc5 hc9 hc13 hc42 hc46 hc50 hc54 hc58 hc62
           refine sdY (.bool false) hX [] [] True.intro ⟨(by congr 1; unfold hrB; simp [*] <;> first | omega | (intros; simp_all; done) | (intros; simp_all; omega)), rfl⟩
def sp87 : List Value → Option Value
 | [.agg ⟨[.int .i64 op, .int .i64 rd, .int .i64 ra, .int .i64 rb, .int .u32 im]⟩] => some (.bool (hrB op rd ra rb im))
 | _ => none
noncomputable def T14 : Tab := { T13 with orc := addOrc T13.orc 87 sp87 }
theorem ok_T14 [Bs] : ProgOk Try.prog T14 := ok_T13.know 87 sp87 fun args v h => by
 unfold sp87 at h
 split at h
 ·rename_i op rd ra rb im; cases h; exact ⟨rfl, rfl, SCall.data (hr_s op rd ra rb im) rfl rfl⟩
 ·cases h
instance : OrcDat T14 := orcDat_add inferInstance 87 sp87 fun l v h => by
 unfold sp87 at h
 split at h
 ·cases h; exact ⟨rfl, rfl⟩
 ·cases h
theorem known_run : answers (.bool true) (evCall Try.prog T14 200000 9 #[] ⟨.lf, 0⟩) = true := by kernel_rfl
def sp9 : List Value → Option Value
 | [] => some (.bool true)
 | _ => none
noncomputable def T15 : Tab := { T14 with orc := addOrc T14.orc 9 sp9 }
theorem ok_T15 [Bs] : ProgOk Try.prog T15 := ok_T14.know 9 sp9 fun args v h => by
 unfold sp9 at h
 split at h
 ·cases h; exact ⟨rfl, rfl, acall_answers known_run⟩
 ·cases h
instance : OrcDat T15 := orcDat_add inferInstance 9 sp9 fun l v h => by
 unfold sp9 at h
 split at h
 ·cases h; exact ⟨rfl, rfl⟩
 ·cases h
end Ls
end Go.Proofs.Ytihacfclecanjaa
