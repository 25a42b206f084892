/- Chapter 21: the parts of a block that is lowered. -/
import Derived.Test.YtegjicaoemhhlaaJh
set_option linter.unusedVariables false
set_option linter.unusedSimpArgs false
namespace Go.Proofs.Ytegjicaoemhhlaa
open Go Go.Ev Go.RowKit
set_option maxRecDepth 100000
namespace Ls
def jjC (x : Int × Int) : List Value := [.int .i64 x.1, .int .u32 x.2]
theorem jjC_len : ∀ x, (jjC x).length = 2 := fun _ => rfl
abbrev jjCo (l : List (Int × Int)) (ro : Bool) : Option Ob := some ⟨tab jjC l, 82, ro⟩
abbrev jjF (l : List (Int × Int)) : Option Ob := jjCo l false
structure LW where
 c : List II
 d : List Int
 r : List Int
 nd : Int
 hd : Int
 nr : Int
 hr : Int
 fl : Int
 tg : Int
 br : Int
def popC (op : Int) (c : List II) (d : List Int) (nd : Int) : List II × List Int × Int × Int := match d.reverse with
 | [] => (c ++ [(op, (c.length : Int), 0, 0, nd)], [], nd + 1, (c.length : Int))
 | x :: t => (c, t.reverse, nd, x)
theorem snoc_at (l : List Int) (x : Int) : (l ++ [x])[l.length]? = some x := by simp
theorem popC_nil (op : Int) (c : List II) (nd : Int) : popC op c [] nd = (c ++ [(op, (c.length : Int), 0, 0, nd)], [], nd + 1, (c.length : Int)) := rfl
theorem popC_snoc (op : Int) (c : List II) (d : List Int) (x nd : Int) : popC op c (d ++ [x]) nd = (c, d, nd, x) := by simp [popC]
def addW (w : LW) (op a b im : Int) : LW := { w with c := w.c ++ [(op, (w.c.length : Int), a, b, im)] }
def newV (w : LW) : Int := (w.c.length : Int)
def popD (w : LW) : LW × Int := let q := popC 1 w.c w.d w.nd; ({ w with c := q.1, d := q.2.1, nd := q.2.2.1 }, q.2.2.2)
def popR (w : LW) : LW × Int := let q := popC 2 w.c w.r w.nr; ({ w with c := q.1, r := q.2.1, nr := q.2.2.1 }, q.2.2.2)
def pushD (w : LW) (l : List Int) : LW := { w with d := w.d ++ l }
def pushR (w : LW) (l : List Int) : LW := { w with r := w.r ++ l }
def oneB (op n nx : Int) (w : LW) : LW :=
 if op = 1 ∨ op = 2 then pushD (addW w 0 0 0 n) [newV w]
 else if op = 3 then pushD (popD w).1 [(popD w).2, (popD w).2]
 else if op = 4 then (popD w).1
 else if op = 5 then pushD (popD (popD w).1).1 [(popD w).2, (popD (popD w).1).2]
 else if op = 6 then pushD (popD (popD w).1).1 [(popD (popD w).1).2, (popD w).2, (popD (popD w).1).2]
 else if op = 7 then pushR (popD w).1 [(popD w).2]
 else if op = 8 then pushD (popR w).1 [(popR w).2]
 else if 16 ≤ op ∧ op ≤ 25 then
  let b := (popD w).2; let a := (popD (popD w).1).2; let w2 := (popD (popD w).1).1
  let w3 := { addW w2 4 a b op with fl := newV w2 }
  if op = 25 then w3 else pushD (addW w3 3 a b op) [newV w3]
 else if op = 38 then pushR (addW w 0 0 0 nx) [newV w]
 else if op = 39 then { (popR w).1 with tg := (popR w).2 }
 else if op = 40 then { (popD w).1 with tg := (popD w).2 }
 else if 33 ≤ op ∧ op ≤ 37 then { w with br := op }
 else w
def topW (w : LW) : LW := { w with hd := max w.hd ((w.d.length : Int) - w.nd), hr := max w.hr ((w.r.length : Int) - w.nr) }
def oneP (op n nx : Int) (w : LW) : LW := topW (oneB op n nx w)
noncomputable def f81b : Code := Try.f81.body.getD .skip
theorem add_s {c : List II} {d jd r jr : List Int} {nd hd nr hr fl tg br ct : Int} {op x a b im : Int} (hcl : c.length < 100000) : SCall Try.prog T16 81 #[pT 0 0, .agg #[jI op, jI x, jI a, jI b, jU im]] (hq [oB 112 (lwL (s5 1 c.length) (s1 2 d.length) (s1 3 r.length) fl tg br ct nd hd nr hr), (iiF c), (inF (d ++ jd)), (inF (r ++ jr))]) fun v h => v = jN c.length ∧ h = hq [oB 112 (lwL (s5 4 ((c ++ [((op : Int), (c.length : Int), a, b, im)]).length)) (s1 2 d.length) (s1 3 r.length) fl tg br ct nd hd nr hr), none, (inF (d ++ jd)), (inF (r ++ jr)), (iiF (c ++ [((op : Int), (c.length : Int), a, b, im)]))] := by
 refine zS Try.f81 f81b 26 4 fun X hX => ?_
 refine sd_run 28 (sd_grow 20 26 26 61 4 39 1 c.length 1 6 (sK 5 1 1) (tab iiC c) [jI op, jN c.length, jI a, jI b, jU im] (tab iiC (c ++ [(op, (c.length : Int), a, b, im)])) kr kr kr kr kr ((tab_len iiC_len _).trans (by first | rfl | (simp only [List.length_append, List.length_cons, List.length_nil, List.length_set] at *; done))) kr kr (by decide) kr zo kr (tab_snoc c (op, (c.length : Int), a, b, im)) (sd_see 20 (s5 6 ((c ++ [(op, (c.length : Int), a, b, im)]).length)) (see_len (n := (c.length + 1)) kr (by simp)) (sd_run 14 ?_)));refine sdY (jN c.length) hX [oB 112 (lwL (s5 4 ((c ++ [((op : Int), (c.length : Int), a, b, im)]).length)) (s1 2 d.length) (s1 3 r.length) fl tg br ct nd hd nr hr), none, (inF (d ++ jd)), (inF (r ++ jr)), (iiF (c ++ [((op : Int), (c.length : Int), a, b, im)]))] (eM [1,2,3,4,7]) ⟨brn, inC_b, inC_b, bk_flat (tab iiC (c ++ [(op, (c.length : Int), a, b, im)])) kr (tab_plain iiC_pl _) (by rfl), ⟨⟩⟩ ⟨rfl, rfl⟩
noncomputable def f79b : Code := Try.f79.body.getD .skip
theorem constant_s {c : List II} {d jd r jr : List Int} {nd hd nr hr fl tg br ct : Int} {im : Int} (hcl : c.length < 100000) : SCall Try.prog T16 79 #[pT 0 0, jU im] (hq [oB 112 (lwL (s5 1 c.length) (s1 2 d.length) (s1 3 r.length) fl tg br ct nd hd nr hr), (iiF c), (inF (d ++ jd)), (inF (r ++ jr))]) fun v h => v = jN c.length ∧ h = hq [oB 112 (lwL (s5 4 ((c ++ [((0 : Int), (c.length : Int), 0, 0, im)]).length)) (s1 2 d.length) (s1 3 r.length) fl tg br ct nd hd nr hr), none, (inF (d ++ jd)), (inF (r ++ jr)), (iiF (c ++ [((0 : Int), (c.length : Int), 0, 0, im)]))] := by
 refine zS Try.f79 f79b 9 4 fun X hX => ?_
 refine sd_run 10 (zC 8 81 #[pT 0 0, .agg #[jI 0, jI 0, jI 0, jI 0, jU im]] (@add_s c d jd r jr nd hd nr hr fl tg br ct 0 0 0 0 im hcl) i4_ ?_);rintro hn9 v9 k9 ⟨rfl, rfl⟩;refine mkG (jN c.length) [oB 112 (lwL (s5 4 ((c ++ [((0 : Int), (c.length : Int), 0, 0, im)]).length)) (s1 2 d.length) (s1 3 r.length) fl tg br ct nd hd nr hr), none, (inF (d ++ jd)), (inF (r ++ jr)), (iiF (c ++ [((0 : Int), (c.length : Int), 0, 0, im)]))] ⟨cvr 0, cvs 2 hn9, cvs 3 hn9, iiC_c 4, ⟨⟩⟩ ?_;refine sd_run 4 ?_;refine zY (jN c.length) hX i5_ ⟨rfl, rfl⟩
noncomputable def f80b : Code := Try.f80.body.getD .skip
theorem popd_s {c : List II} {d jd r jr : List Int} {nd hd nr hr fl tg br ct : Int} (hcl : c.length < 100000) (hdl : d.length < 100000) (hrl : r.length < 100000) (hnd : 0 ≤ nd ∧ nd < 100000) (hnr : 0 ≤ nr ∧ nr < 100000) : SCall Try.prog T16 80 #[pT 0 0, pT 0 14] (hq [oB 112 (lwL (s5 1 c.length) (s1 2 d.length) (s1 3 r.length) fl tg br ct nd hd nr hr), (iiF c), (inF (d ++ jd)), (inF (r ++ jr))]) fun v h => ∃ (c1 : List II) (d1 j1 : List Int) (m1 n1 : Int), popC 1 c d nd = (c1, d1, m1, n1) ∧ v = jI n1 ∧ h = hq [oB 112 (lwL (s5 4 c1.length) (s1 5 d1.length) (s1 3 r.length) fl tg br ct m1 hd nr hr), none, none, (inF (r ++ jr)), (iiF c1), (inF (d1 ++ j1))] := by
 rcases nil_or_snoc d with hk | ⟨l_, x_, hk⟩
 ·subst hk;refine zS Try.f80 f80b 52 4 fun X hX => ?_
  refine sd_run 13 (sd_see 11 (jI 0) (see_int (x := (([] : List Int).length : Int)) kr rfl) (zI 20 36 .i64 (nd + 1) (IntKind.i64.wrap (nd + 1)) (zI 17 48 .i64 ((nd + 1) - 1) (IntKind.i64.wrap ((nd + 1) - 1)) (sd_run 1 (sd_see 49 (jU nd) (see_int (x := (IntKind.u32.wrap ((nd + 1) - 1))) kr (by rw [show (nd + 1 - 1 : Int) = nd by omega]; exact wu32 rfl zo zo)) ?_)))));refine sd_run 1 (zC 51 81 #[pT 0 0, .agg #[jI 1, jI 0, jI 0, jI 0, jU nd]] (@add_s c ([] : List Int) jd r jr (nd + 1) hd nr hr fl tg br ct 1 0 0 0 nd hcl) i4_ ?_);rintro hn9 v9 k9 ⟨rfl, rfl⟩;refine mkG (jN c.length) [oB 112 (lwL (s5 4 ((c ++ [((1 : Int), (c.length : Int), 0, 0, nd)]).length)) (s1 2 (([] : List Int).length)) (s1 3 r.length) fl tg br ct (nd + 1) hd nr hr), none, (inF (([] : List Int) ++ jd)), (inF (r ++ jr)), (iiF (c ++ [((1 : Int), (c.length : Int), 0, 0, nd)]))] ⟨cvr 0, cvs 2 hn9, cvs 3 hn9, iiC_c 4, ⟨⟩⟩ ?_;refine sd_run 4 ?_;refine sdY (jN c.length) hX [oB 112 (lwL (s5 4 ((c ++ [(1, (c.length : Int), 0, 0, nd)]).length)) (s1 5 ([].length)) (s1 3 r.length) fl tg br ct (nd + 1) hd nr hr), none, none, (inF (r ++ jr)), (iiF (c ++ [(1, (c.length : Int), 0, 0, nd)])), (inF ([] ++ jd))] (eM [1,2,3,4,5,3]) ⟨brn, inC_b, bk_flat (tab iiC (c ++ [((1 : Int), (c.length : Int), 0, 0, nd)])) kr (tab_plain iiC_pl _) (by rfl), bk_flat (tab inC (([] : List Int) ++ jd)) kr (tab_plain inC_pl _) (by rfl), ⟨⟩⟩ ⟨(c ++ [(1, (c.length : Int), 0, 0, nd)]), [], jd, (nd + 1), (c.length : Int), popC_nil 1 c nd, rfl, rfl⟩
 ·subst hk;rw [List.length_append] at hdl;simp only [List.length_cons, List.length_nil] at hdl;refine zS Try.f80 f80b 52 4 fun X hX => ?_
  refine sd_run 13 (sd_see 11 (jI (((l_.length + 1) : Nat) : Int)) (see_int (x := ((l_ ++ [x_]).length : Int)) kr (by simp)) (sd_run 1 (sd_see 12 (jN l_.length) (see_int (x := (IntKind.i64.wrap ((((l_.length + 1) : Nat) : Int) - 1))) kr (by rw [show (((l_.length + 1 : Nat) : Int) - 1) = (l_.length : Int) by omega]; exact w64 rfl zo zo)) (zT 7 14 ((l_.length : Int) ≥ 0) (zX 10 20 (pT 2 (0 + l_.length * 1)) l_.length ((l_ ++ [x_]).length) ?_)))));refine sd_ld 21 (jI x_) 3 (pT 2 (0 + l_.length * 1)) kr kr kr (ld_cell (l := (l_ ++ [x_]) ++ jd) (e := 3) (ro := false) (k := l_.length) (j := 0) inC_len kr kr kr (app_at (snoc_at _ _)) rfl) (sd_run 11 (sd_slh 28 22 3 1 2 0 ((l_ ++ [x_]).length) l_.length .i64 kr kr kr kr kr (by first | omega | simp) (sd_run 13 ?_)));refine sdY (jI x_) hX [oB 112 (lwL (s5 4 c.length) (s1 5 l_.length) (s1 3 r.length) fl tg br ct nd hd nr hr), none, none, (inF (r ++ jr)), (iiF c), (inF (l_ ++ (x_ :: jd)))] (eM [1,2,3,4,2,3]) ⟨brn, inC_b, iiC_b, bk_flat (tab inC ((l_ ++ [x_]) ++ jd)) kr (tab_plain inC_pl _) (congrArg (tab inC) (by simp)), ⟨⟩⟩ ⟨c, l_, (x_ :: jd), nd, x_, popC_snoc 1 c l_ x_ nd, rfl, rfl⟩
theorem popr_s {c : List II} {d jd r jr : List Int} {nd hd nr hr fl tg br ct : Int} (hcl : c.length < 100000) (hdl : d.length < 100000) (hrl : r.length < 100000) (hnd : 0 ≤ nd ∧ nd < 100000) (hnr : 0 ≤ nr ∧ nr < 100000) : SCall Try.prog T16 80 #[pT 0 0, pT 0 18] (hq [oB 112 (lwL (s5 1 c.length) (s1 2 d.length) (s1 3 r.length) fl tg br ct nd hd nr hr), (iiF c), (inF (d ++ jd)), (inF (r ++ jr))]) fun v h => ∃ (c1 : List II) (d1 j1 : List Int) (m1 n1 : Int), popC 2 c r nr = (c1, d1, m1, n1) ∧ v = jI n1 ∧ h = hq [oB 112 (lwL (s5 4 c1.length) (s1 2 d.length) (s1 5 d1.length) fl tg br ct nd hd m1 hr), none, (inF (d ++ jd)), none, (iiF c1), (inF (d1 ++ j1))] := by
 rcases nil_or_snoc r with hk | ⟨l_, x_, hk⟩
 ·subst hk;refine zS Try.f80 f80b 52 4 fun X hX => ?_
  refine sd_run 13 (sd_see 11 (jI 0) (see_int (x := (([] : List Int).length : Int)) kr rfl) (zI 20 36 .i64 (nr + 1) (IntKind.i64.wrap (nr + 1)) (zI 17 48 .i64 ((nr + 1) - 1) (IntKind.i64.wrap ((nr + 1) - 1)) (sd_run 1 (sd_see 49 (jU nr) (see_int (x := (IntKind.u32.wrap ((nr + 1) - 1))) kr (by rw [show (nr + 1 - 1 : Int) = nr by omega]; exact wu32 rfl zo zo)) ?_)))));refine sd_run 1 (zC 51 81 #[pT 0 0, .agg #[jI 2, jI 0, jI 0, jI 0, jU nr]] (@add_s c d jd ([] : List Int) jr nd hd (nr + 1) hr fl tg br ct 2 0 0 0 nr hcl) i4_ ?_);rintro hn9 v9 k9 ⟨rfl, rfl⟩;refine mkG (jN c.length) [oB 112 (lwL (s5 4 ((c ++ [((2 : Int), (c.length : Int), 0, 0, nr)]).length)) (s1 2 d.length) (s1 3 (([] : List Int).length)) fl tg br ct nd hd (nr + 1) hr), none, (inF (d ++ jd)), (inF (([] : List Int) ++ jr)), (iiF (c ++ [((2 : Int), (c.length : Int), 0, 0, nr)]))] ⟨cvr 0, cvs 2 hn9, cvs 3 hn9, iiC_c 4, ⟨⟩⟩ ?_;refine sd_run 4 ?_;refine sdY (jN c.length) hX [oB 112 (lwL (s5 4 ((c ++ [(2, (c.length : Int), 0, 0, nr)]).length)) (s1 2 d.length) (s1 5 ([].length)) fl tg br ct nd hd (nr + 1) hr), none, (inF (d ++ jd)), none, (iiF (c ++ [(2, (c.length : Int), 0, 0, nr)])), (inF ([] ++ jr))] (eM [1,2,3,4,5,4]) ⟨brn, inC_b, bk_flat (tab iiC (c ++ [((2 : Int), (c.length : Int), 0, 0, nr)])) kr (tab_plain iiC_pl _) (by rfl), bk_flat (tab inC (([] : List Int) ++ jr)) kr (tab_plain inC_pl _) (by rfl), ⟨⟩⟩ ⟨(c ++ [(2, (c.length : Int), 0, 0, nr)]), [], jr, (nr + 1), (c.length : Int), popC_nil 2 c nr, rfl, rfl⟩
 ·subst hk;rw [List.length_append] at hrl;simp only [List.length_cons, List.length_nil] at hrl;refine zS Try.f80 f80b 52 4 fun X hX => ?_
  refine sd_run 13 (sd_see 11 (jI (((l_.length + 1) : Nat) : Int)) (see_int (x := ((l_ ++ [x_]).length : Int)) kr (by simp)) (sd_run 1 (sd_see 12 (jN l_.length) (see_int (x := (IntKind.i64.wrap ((((l_.length + 1) : Nat) : Int) - 1))) kr (by rw [show (((l_.length + 1 : Nat) : Int) - 1) = (l_.length : Int) by omega]; exact w64 rfl zo zo)) (zT 7 14 ((l_.length : Int) ≥ 0) (zX 10 20 (pT 3 (0 + l_.length * 1)) l_.length ((l_ ++ [x_]).length) ?_)))));refine sd_ld 21 (jI x_) 3 (pT 3 (0 + l_.length * 1)) kr kr kr (ld_cell (l := (l_ ++ [x_]) ++ jr) (e := 3) (ro := false) (k := l_.length) (j := 0) inC_len kr kr kr (app_at (snoc_at _ _)) rfl) (sd_run 11 (sd_slh 28 22 3 1 3 0 ((l_ ++ [x_]).length) l_.length .i64 kr kr kr kr kr (by first | omega | simp) (sd_run 13 ?_)));refine sdY (jI x_) hX [oB 112 (lwL (s5 4 c.length) (s1 2 d.length) (s1 5 l_.length) fl tg br ct nd hd nr hr), none, (inF (d ++ jd)), none, (iiF c), (inF (l_ ++ (x_ :: jr)))] (eM [1,2,3,4,2,4]) ⟨brn, inC_b, iiC_b, bk_flat (tab inC ((l_ ++ [x_]) ++ jr)) kr (tab_plain inC_pl _) (congrArg (tab inC) (by simp)), ⟨⟩⟩ ⟨c, l_, (x_ :: jr), nr, x_, popC_snoc 2 c l_ x_ nr, rfl, rfl⟩
end Ls
end Go.Proofs.Ytegjicaoemhhlaa
