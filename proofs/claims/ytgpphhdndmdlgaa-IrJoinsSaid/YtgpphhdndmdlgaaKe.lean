/- Chapter 19: the parts of a block that is lowered. -/
import Derived.Test.YtgpphhdndmdlgaaKc
namespace Go.Proofs.Ytgpphhdndmdlgaa
open Go Go.Ev Go.RowKit
set_option linter.unusedVariables false
set_option linter.unusedSimpArgs false
set_option maxRecDepth 100000
namespace Ls
abbrev IV := Int × Int × Int
def usel (t : Int) (l : List IV) (n : Nat) : List IV := match l[n]? with | some a => l.set n (a.1, a.2.1, max a.2.2 t) | none => l
def useI (t : Int) (l : List IV) (n : Int) : List IV := if 0 ≤ n then usel t l n.toNat else l
def seedl (n : Nat) : List IV := (List.range n).map fun (i : Nat) => ((i : Int), (i : Int), (i : Int))
def codeL (c : List II) : Nat → List IV
 | 0 => seedl c.length
 | k + 1 => match c[k]? with | some x => if x.1 = 3 ∨ x.1 = 4 then useI k (useI k (codeL c k) x.2.2.1) x.2.2.2.1 else codeL c k | none => codeL c k
def outL (t : Int) (l : List IV) (xs : List Int) : List IV := xs.foldl (useI t) l
def ofL (c : List II) (od rd : List Int) (fl tg : Int) : List IV := useI c.length (useI c.length (outL c.length (outL c.length (codeL c c.length) od) rd) fl) tg
@[simp] theorem usel_len (t : Int) (l : List IV) (n : Nat) : (usel t l n).length = l.length := by unfold usel; split <;> simp
@[simp] theorem useI_len (t : Int) (l : List IV) (n : Int) : (useI t l n).length = l.length := by unfold useI; split <;> simp
@[simp] theorem seedl_len (n : Nat) : (seedl n).length = n := by simp [seedl]
@[simp] theorem codeL_len (c : List II) : ∀ k, (codeL c k).length = c.length
 | 0 => by simp [codeL]
 | k + 1 => by unfold codeL; split; (split <;> simp [codeL_len c k]); exact codeL_len c k
@[simp] theorem outL_len (t : Int) : ∀ (xs : List Int) (l : List IV), (outL t l xs).length = l.length
 | [], l => rfl
 | x :: xs, l => by show (outL t (useI t l x) xs).length = _; rw [outL_len t xs]; simp
@[simp] theorem ofL_len (c : List II) (od rd : List Int) (fl tg : Int) : (ofL c od rd fl tg).length = c.length := by simp [ofL]
theorem made_ab {nd nr : Int} {x : II} {k : Int} (h : madeB nd nr x k = true) (hx : x.1 = 3 ∨ x.1 = 4) : (0 ≤ x.2.2.1 ∧ x.2.2.1 < k) ∧ (0 ≤ x.2.2.2.1 ∧ x.2.2.2.1 < k) := by
 unfold madeB at h
 rcases hx with hx | hx <;> simp [hx, valB] at h <;> omega
theorem valB_iff {n k : Int} : valB n k = true ↔ 0 ≤ n ∧ n < k := by simp [valB]
structure LW where
 c : List II
 d : List Int
 r : List Int
 nd : Int
 hd : Int
 nr : Int
 hr : Int
 fl : Int
 tg : Int
 br : Int
def popC (op : Int) (c : List II) (d : List Int) (nd : Int) : List II × List Int × Int × Int := match d.reverse with
 | [] => (c ++ [(op, (c.length : Int), 0, 0, nd)], [], nd + 1, (c.length : Int))
 | x :: t => (c, t.reverse, nd, x)
theorem snoc_at (l : List Int) (x : Int) : (l ++ [x])[l.length]? = some x := by simp
theorem popC_nil (op : Int) (c : List II) (nd : Int) : popC op c [] nd = (c ++ [(op, (c.length : Int), 0, 0, nd)], [], nd + 1, (c.length : Int)) := rfl
theorem popC_snoc (op : Int) (c : List II) (d : List Int) (x nd : Int) : popC op c (d ++ [x]) nd = (c, d, nd, x) := by simp [popC]
def addW (w : LW) (op a b im : Int) : LW := { w with c := w.c ++ [(op, (w.c.length : Int), a, b, im)] }
def newV (w : LW) : Int := (w.c.length : Int)
def popD (w : LW) : LW × Int := let q := popC 1 w.c w.d w.nd; ({ w with c := q.1, d := q.2.1, nd := q.2.2.1 }, q.2.2.2)
def popR (w : LW) : LW × Int := let q := popC 2 w.c w.r w.nr; ({ w with c := q.1, r := q.2.1, nr := q.2.2.1 }, q.2.2.2)
def pushD (w : LW) (l : List Int) : LW := { w with d := w.d ++ l }
def pushR (w : LW) (l : List Int) : LW := { w with r := w.r ++ l }
def oneB (op n nx : Int) (w : LW) : LW :=
 if op = 1 ∨ op = 2 then pushD (addW w 0 0 0 n) [newV w]
 else if op = 3 then pushD (popD w).1 [(popD w).2, (popD w).2]
 else if op = 4 then (popD w).1
 else if op = 5 then pushD (popD (popD w).1).1 [(popD w).2, (popD (popD w).1).2]
 else if op = 6 then pushD (popD (popD w).1).1 [(popD (popD w).1).2, (popD w).2, (popD (popD w).1).2]
 else if op = 7 then pushR (popD w).1 [(popD w).2]
 else if op = 8 then pushD (popR w).1 [(popR w).2]
 else if 16 ≤ op ∧ op ≤ 25 then
  let b := (popD w).2; let a := (popD (popD w).1).2; let w2 := (popD (popD w).1).1
  let w3 := { addW w2 4 a b op with fl := newV w2 }
  if op = 25 then w3 else pushD (addW w3 3 a b op) [newV w3]
 else if op = 38 then pushR (addW w 0 0 0 nx) [newV w]
 else if op = 39 then { (popR w).1 with tg := (popR w).2 }
 else if op = 40 then { (popD w).1 with tg := (popD w).2 }
 else if 33 ≤ op ∧ op ≤ 37 then { w with br := op }
 else w
def topW (w : LW) : LW := { w with hd := max w.hd ((w.d.length : Int) - w.nd), hr := max w.hr ((w.r.length : Int) - w.nr) }
def oneP (op n nx : Int) (w : LW) : LW := topW (oneB op n nx w)
noncomputable def f58b : Code := Try.f58.body.getD .skip
theorem f58_body : Try.f58.body = some f58b := by kernel_rfl
theorem f58_fn : T20.fn 58 = some Try.f58 := by kernel_rfl
theorem add_s {c : List II} {d jd r jr : List Int} {nd hd nr hr fl tg br ct : Int} {op x a b im : Int} (hcl : c.length < 100000) : SCall Try.prog T20 58 #[.pointer (some ⟨0, 0, none⟩), .agg #[.int .i64 op, .int .i64 x, .int .i64 a, .int .i64 b, .int .u32 im]] (hq [some ⟨(lwL (s5 1 c.length) (s1 2 d.length) (s1 3 r.length) fl tg br ct nd hd nr hr), 64, false⟩, (iiCo c false), (inCo (d ++ jd) false), (inCo (r ++ jr) false)]) fun v h => v = .int .i64 (c.length : Int) ∧ h = hq [some ⟨(lwL (s5 4 ((c ++ [((op : Int), (c.length : Int), a, b, im)]).length)) (s1 2 d.length) (s1 3 r.length) fl tg br ct nd hd nr hr), 64, false⟩, none, (inCo (d ++ jd) false), (inCo (r ++ jr) false), (iiCo (c ++ [((op : Int), (c.length : Int), a, b, im)]) false)] := by
 refine scall_sd 26 _ 4 kr f58_fn f58_body rfl rfl rfl fun X hX => ?_
 refine sd_run 28 (sd_grow 20 36 36 72 4 39 1 c.length 1 6 (.slice (some ⟨5, 0, none⟩) 1 1) (tab iiC c) [Value.int .i64 op, .int .i64 (c.length : Int), .int .i64 a, .int .i64 b, .int .u32 im] (tab iiC (c ++ [(op, (c.length : Int), a, b, im)])) kr kr kr kr kr ((tab_len iiC_len _).trans (by first | rfl | (simp only [List.length_append, List.length_cons, List.length_nil, List.length_set] at *; done))) kr kr (by decide) kr (by omega) kr (tab_snoc c (op, (c.length : Int), a, b, im)) (sd_see 20 (s5 6 ((c ++ [(op, (c.length : Int), a, b, im)]).length)) (see_len (n := (c.length + 1)) kr (by simp)) (sd_run 14 ?_)))
 refine sdY (.int .i64 (c.length : Int)) hX [some ⟨(lwL (s5 4 ((c ++ [((op : Int), (c.length : Int), a, b, im)]).length)) (s1 2 d.length) (s1 3 r.length) fl tg br ct nd hd nr hr), 64, false⟩, none, (inCo (d ++ jd) false), (inCo (r ++ jr) false), (iiCo (c ++ [((op : Int), (c.length : Int), a, b, im)]) false)] [some 0, some 1, some 2, some 3, some 6] ⟨brn, inC_b, inC_b, bk_flat (tab iiC (c ++ [(op, (c.length : Int), a, b, im)])) kr (tab_plain iiC_pl _) (by rfl), ⟨⟩⟩ ⟨rfl, rfl⟩
noncomputable def f56b : Code := Try.f56.body.getD .skip
theorem f56_body : Try.f56.body = some f56b := by kernel_rfl
theorem f56_fn : T20.fn 56 = some Try.f56 := by kernel_rfl
theorem constant_s {c : List II} {d jd r jr : List Int} {nd hd nr hr fl tg br ct : Int} {im : Int} (hcl : c.length < 100000) : SCall Try.prog T20 56 #[.pointer (some ⟨0, 0, none⟩), .int .u32 im] (hq [some ⟨(lwL (s5 1 c.length) (s1 2 d.length) (s1 3 r.length) fl tg br ct nd hd nr hr), 64, false⟩, (iiCo c false), (inCo (d ++ jd) false), (inCo (r ++ jr) false)]) fun v h => v = .int .i64 (c.length : Int) ∧ h = hq [some ⟨(lwL (s5 4 ((c ++ [((0 : Int), (c.length : Int), 0, 0, im)]).length)) (s1 2 d.length) (s1 3 r.length) fl tg br ct nd hd nr hr), 64, false⟩, none, (inCo (d ++ jd) false), (inCo (r ++ jr) false), (iiCo (c ++ [((0 : Int), (c.length : Int), 0, 0, im)]) false)] := by
 refine scall_sd 9 _ 4 kr f56_fn f56_body rfl rfl rfl fun X hX => ?_
 refine sd_run 10 (sdC 8 58 #[.pointer (some ⟨0, 0, none⟩), .agg #[.int .i64 0, .int .i64 0, .int .i64 0, .int .i64 0, .int .u32 im]] (@add_s c d jd r jr nd hd nr hr fl tg br ct 0 0 0 0 im hcl) i4_ ⟨brn, iiC_b, inC_b, inC_b, ⟨⟩⟩ ?_)
 rintro hn9 v9 k9 ⟨rfl, rfl⟩
 refine mkG (.int .i64 (c.length : Int)) [some ⟨(lwL (s5 4 ((c ++ [((0 : Int), (c.length : Int), 0, 0, im)]).length)) (s1 2 d.length) (s1 3 r.length) fl tg br ct nd hd nr hr), 64, false⟩, none, (inCo (d ++ jd) false), (inCo (r ++ jr) false), (iiCo (c ++ [((0 : Int), (c.length : Int), 0, 0, im)]) false)] ⟨cvr 0, cvs 2 hn9, cvs 3 hn9, iiC_c 4, ⟨⟩⟩ ?_
 refine sd_run 4 ?_
 refine sdY (.int .i64 (c.length : Int)) hX [some ⟨(lwL (s5 4 ((c ++ [((0 : Int), (c.length : Int), 0, 0, im)]).length)) (s1 2 d.length) (s1 3 r.length) fl tg br ct nd hd nr hr), 64, false⟩, none, (inCo (d ++ jd) false), (inCo (r ++ jr) false), (iiCo (c ++ [((0 : Int), (c.length : Int), 0, 0, im)]) false)] i5_ ⟨brn, inC_b, inC_b, iiC_b, ⟨⟩⟩ ⟨rfl, rfl⟩
noncomputable def f57b : Code := Try.f57.body.getD .skip
theorem f57_body : Try.f57.body = some f57b := by kernel_rfl
theorem f57_fn : T20.fn 57 = some Try.f57 := by kernel_rfl
theorem popd_s {c : List II} {d jd r jr : List Int} {nd hd nr hr fl tg br ct : Int} (hcl : c.length < 100000) (hdl : d.length < 100000) (hrl : r.length < 100000) (hnd : 0 ≤ nd ∧ nd < 100000) (hnr : 0 ≤ nr ∧ nr < 100000) : SCall Try.prog T20 57 #[.pointer (some ⟨0, 0, none⟩), .pointer (some ⟨0, 14, none⟩)] (hq [some ⟨(lwL (s5 1 c.length) (s1 2 d.length) (s1 3 r.length) fl tg br ct nd hd nr hr), 64, false⟩, (iiCo c false), (inCo (d ++ jd) false), (inCo (r ++ jr) false)]) fun v h => ∃ (c1 : List II) (d1 j1 : List Int) (m1 n1 : Int), popC 1 c d nd = (c1, d1, m1, n1) ∧ v = .int .i64 n1 ∧ h = hq [some ⟨(lwL (s5 4 c1.length) (s1 5 d1.length) (s1 3 r.length) fl tg br ct m1 hd nr hr), 64, false⟩, none, none, (inCo (r ++ jr) false), (iiCo c1 false), (inCo (d1 ++ j1) false)] := by
 rcases nil_or_snoc d with hk | ⟨l_, x_, hk⟩
 ·skip
  subst hk
  refine scall_sd 52 _ 4 kr f57_fn f57_body rfl rfl rfl fun X hX => ?_
  refine sd_run 13 (sd_see 11 (.int .i64 0) (see_int (x := (([] : List Int).length : Int)) kr rfl) (sd_run 20 (sd_see 36 (.int .i64 (nd + 1)) (see_int (x := (IntKind.i64.wrap (nd + 1))) kr (w64 (by omega) (by omega) (by omega))) (sd_run 17 (sd_see 48 (.int .i64 ((nd + 1) - 1)) (see_int (x := (IntKind.i64.wrap ((nd + 1) - 1))) kr (w64 (by omega) (by omega) (by omega))) (sd_run 1 (sd_see 49 (.int .u32 nd) (see_int (x := (IntKind.u32.wrap ((nd + 1) - 1))) kr (by rw [show (nd + 1 - 1 : Int) = nd by omega]; exact wu32 rfl (by omega) (by omega))) ?_)))))))
  refine sd_run 1 (sdC 51 58 #[.pointer (some ⟨0, 0, none⟩), .agg #[.int .i64 1, .int .i64 0, .int .i64 0, .int .i64 0, .int .u32 nd]] (@add_s c ([] : List Int) jd r jr (nd + 1) hd nr hr fl tg br ct 1 0 0 0 nd hcl) i4_ ⟨brn, iiC_b, inC_b, inC_b, ⟨⟩⟩ ?_)
  rintro hn9 v9 k9 ⟨rfl, rfl⟩
  refine mkG (.int .i64 (c.length : Int)) [some ⟨(lwL (s5 4 ((c ++ [((1 : Int), (c.length : Int), 0, 0, nd)]).length)) (s1 2 (([] : List Int).length)) (s1 3 r.length) fl tg br ct (nd + 1) hd nr hr), 64, false⟩, none, (inCo (([] : List Int) ++ jd) false), (inCo (r ++ jr) false), (iiCo (c ++ [((1 : Int), (c.length : Int), 0, 0, nd)]) false)] ⟨cvr 0, cvs 2 hn9, cvs 3 hn9, iiC_c 4, ⟨⟩⟩ ?_
  refine sd_run 4 ?_
  refine sdY (.int .i64 (c.length : Int)) hX [some ⟨(lwL (s5 4 ((c ++ [(1, (c.length : Int), 0, 0, nd)]).length)) (s1 5 ([].length)) (s1 3 r.length) fl tg br ct (nd + 1) hd nr hr), 64, false⟩, none, none, (inCo (r ++ jr) false), (iiCo (c ++ [(1, (c.length : Int), 0, 0, nd)]) false), (inCo ([] ++ jd) false)] [some 0, some 1, some 2, some 3, some 4, some 2] ⟨brn, inC_b, bk_flat (tab iiC (c ++ [((1 : Int), (c.length : Int), 0, 0, nd)])) kr (tab_plain iiC_pl _) (by rfl), bk_flat (tab inC (([] : List Int) ++ jd)) kr (tab_plain inC_pl _) (by rfl), ⟨⟩⟩ ⟨(c ++ [(1, (c.length : Int), 0, 0, nd)]), [], jd, (nd + 1), (c.length : Int), popC_nil 1 c nd, rfl, rfl⟩
 ·skip
  subst hk
  rw [List.length_append] at hdl
  simp only [List.length_cons, List.length_nil] at hdl
  refine scall_sd 52 _ 4 kr f57_fn f57_body rfl rfl rfl fun X hX => ?_
  refine sd_run 13 (sd_see 11 (.int .i64 (((l_.length + 1) : Nat) : Int)) (see_int (x := ((l_ ++ [x_]).length : Int)) kr (by simp)) (sd_run 1 (sd_see 12 (.int .i64 (l_.length : Int)) (see_int (x := (IntKind.i64.wrap ((((l_.length + 1) : Nat) : Int) - 1))) kr (by rw [show (((l_.length + 1 : Nat) : Int) - 1) = (l_.length : Int) by omega]; exact w64 rfl (by omega) (by omega))) (sd_run 7 (sdT 14 ((l_.length : Int) ≥ 0) (by omega) kr (sd_run 10 (sd_ix 20 (.pointer (some ⟨2, 0 + l_.length * 1, none⟩)) l_.length ((l_ ++ [x_]).length) kr kr kr (by first | omega | simp) ?_)))))))
  refine sd_ld 21 (.int .i64 x_) 3 (.pointer (some ⟨2, 0 + l_.length * 1, none⟩)) kr kr kr (ld_cell (l := (l_ ++ [x_]) ++ jd) (e := 3) (ro := false) (k := l_.length) (j := 0) inC_len kr kr kr (app_at (snoc_at _ _)) rfl) (sd_run 11 (sd_slh 28 23 3 1 2 0 ((l_ ++ [x_]).length) l_.length .i64 kr kr kr kr kr (by first | omega | simp) (sd_run 13 ?_)))
  refine sdY (.int .i64 x_) hX [some ⟨(lwL (s5 4 c.length) (s1 5 l_.length) (s1 3 r.length) fl tg br ct nd hd nr hr), 64, false⟩, none, none, (inCo (r ++ jr) false), (iiCo c false), (inCo (l_ ++ (x_ :: jd)) false)] [some 0, some 1, some 2, some 3, some 1, some 2] ⟨brn, inC_b, iiC_b, bk_flat (tab inC ((l_ ++ [x_]) ++ jd)) kr (tab_plain inC_pl _) (congrArg (tab inC) (by simp)), ⟨⟩⟩ ⟨c, l_, (x_ :: jd), nd, x_, popC_snoc 1 c l_ x_ nd, rfl, rfl⟩
theorem popr_s {c : List II} {d jd r jr : List Int} {nd hd nr hr fl tg br ct : Int} (hcl : c.length < 100000) (hdl : d.length < 100000) (hrl : r.length < 100000) (hnd : 0 ≤ nd ∧ nd < 100000) (hnr : 0 ≤ nr ∧ nr < 100000) : SCall Try.prog T20 57 #[.pointer (some ⟨0, 0, none⟩), .pointer (some ⟨0, 18, none⟩)] (hq [some ⟨(lwL (s5 1 c.length) (s1 2 d.length) (s1 3 r.length) fl tg br ct nd hd nr hr), 64, false⟩, (iiCo c false), (inCo (d ++ jd) false), (inCo (r ++ jr) false)]) fun v h => ∃ (c1 : List II) (d1 j1 : List Int) (m1 n1 : Int), popC 2 c r nr = (c1, d1, m1, n1) ∧ v = .int .i64 n1 ∧ h = hq [some ⟨(lwL (s5 4 c1.length) (s1 2 d.length) (s1 5 d1.length) fl tg br ct nd hd m1 hr), 64, false⟩, none, (inCo (d ++ jd) false), none, (iiCo c1 false), (inCo (d1 ++ j1) false)] := by
 rcases nil_or_snoc r with hk | ⟨l_, x_, hk⟩
 ·skip
  subst hk
  refine scall_sd 52 _ 4 kr f57_fn f57_body rfl rfl rfl fun X hX => ?_
  refine sd_run 13 (sd_see 11 (.int .i64 0) (see_int (x := (([] : List Int).length : Int)) kr rfl) (sd_run 20 (sd_see 36 (.int .i64 (nr + 1)) (see_int (x := (IntKind.i64.wrap (nr + 1))) kr (w64 (by omega) (by omega) (by omega))) (sd_run 17 (sd_see 48 (.int .i64 ((nr + 1) - 1)) (see_int (x := (IntKind.i64.wrap ((nr + 1) - 1))) kr (w64 (by omega) (by omega) (by omega))) (sd_run 1 (sd_see 49 (.int .u32 nr) (see_int (x := (IntKind.u32.wrap ((nr + 1) - 1))) kr (by rw [show (nr + 1 - 1 : Int) = nr by omega]; exact wu32 rfl (by omega) (by omega))) ?_)))))))
  refine sd_run 1 (sdC 51 58 #[.pointer (some ⟨0, 0, none⟩), .agg #[.int .i64 2, .int .i64 0, .int .i64 0, .int .i64 0, .int .u32 nr]] (@add_s c d jd ([] : List Int) jr nd hd (nr + 1) hr fl tg br ct 2 0 0 0 nr hcl) i4_ ⟨brn, iiC_b, inC_b, inC_b, ⟨⟩⟩ ?_)
  rintro hn9 v9 k9 ⟨rfl, rfl⟩
  refine mkG (.int .i64 (c.length : Int)) [some ⟨(lwL (s5 4 ((c ++ [((2 : Int), (c.length : Int), 0, 0, nr)]).length)) (s1 2 d.length) (s1 3 (([] : List Int).length)) fl tg br ct nd hd (nr + 1) hr), 64, false⟩, none, (inCo (d ++ jd) false), (inCo (([] : List Int) ++ jr) false), (iiCo (c ++ [((2 : Int), (c.length : Int), 0, 0, nr)]) false)] ⟨cvr 0, cvs 2 hn9, cvs 3 hn9, iiC_c 4, ⟨⟩⟩ ?_
  refine sd_run 4 ?_
  refine sdY (.int .i64 (c.length : Int)) hX [some ⟨(lwL (s5 4 ((c ++ [(2, (c.length : Int), 0, 0, nr)]).length)) (s1 2 d.length) (s1 5 ([].length)) fl tg br ct nd hd (nr + 1) hr), 64, false⟩, none, (inCo (d ++ jd) false), none, (iiCo (c ++ [(2, (c.length : Int), 0, 0, nr)]) false), (inCo ([] ++ jr) false)] [some 0, some 1, some 2, some 3, some 4, some 3] ⟨brn, inC_b, bk_flat (tab iiC (c ++ [((2 : Int), (c.length : Int), 0, 0, nr)])) kr (tab_plain iiC_pl _) (by rfl), bk_flat (tab inC (([] : List Int) ++ jr)) kr (tab_plain inC_pl _) (by rfl), ⟨⟩⟩ ⟨(c ++ [(2, (c.length : Int), 0, 0, nr)]), [], jr, (nr + 1), (c.length : Int), popC_nil 2 c nr, rfl, rfl⟩
 ·skip
  subst hk
  rw [List.length_append] at hrl
  simp only [List.length_cons, List.length_nil] at hrl
  refine scall_sd 52 _ 4 kr f57_fn f57_body rfl rfl rfl fun X hX => ?_
  refine sd_run 13 (sd_see 11 (.int .i64 (((l_.length + 1) : Nat) : Int)) (see_int (x := ((l_ ++ [x_]).length : Int)) kr (by simp)) (sd_run 1 (sd_see 12 (.int .i64 (l_.length : Int)) (see_int (x := (IntKind.i64.wrap ((((l_.length + 1) : Nat) : Int) - 1))) kr (by rw [show (((l_.length + 1 : Nat) : Int) - 1) = (l_.length : Int) by omega]; exact w64 rfl (by omega) (by omega))) (sd_run 7 (sdT 14 ((l_.length : Int) ≥ 0) (by omega) kr (sd_run 10 (sd_ix 20 (.pointer (some ⟨3, 0 + l_.length * 1, none⟩)) l_.length ((l_ ++ [x_]).length) kr kr kr (by first | omega | simp) ?_)))))))
  refine sd_ld 21 (.int .i64 x_) 3 (.pointer (some ⟨3, 0 + l_.length * 1, none⟩)) kr kr kr (ld_cell (l := (l_ ++ [x_]) ++ jr) (e := 3) (ro := false) (k := l_.length) (j := 0) inC_len kr kr kr (app_at (snoc_at _ _)) rfl) (sd_run 11 (sd_slh 28 23 3 1 3 0 ((l_ ++ [x_]).length) l_.length .i64 kr kr kr kr kr (by first | omega | simp) (sd_run 13 ?_)))
  refine sdY (.int .i64 x_) hX [some ⟨(lwL (s5 4 c.length) (s1 2 d.length) (s1 5 l_.length) fl tg br ct nd hd nr hr), 64, false⟩, none, (inCo (d ++ jd) false), none, (iiCo c false), (inCo (l_ ++ (x_ :: jr)) false)] [some 0, some 1, some 2, some 3, some 1, some 3] ⟨brn, inC_b, iiC_b, bk_flat (tab inC ((l_ ++ [x_]) ++ jr)) kr (tab_plain inC_pl _) (congrArg (tab inC) (by simp)), ⟨⟩⟩ ⟨c, l_, (x_ :: jr), nr, x_, popC_snoc 2 c l_ x_ nr, rfl, rfl⟩
end Ls
end Go.Proofs.Ytgpphhdndmdlgaa
