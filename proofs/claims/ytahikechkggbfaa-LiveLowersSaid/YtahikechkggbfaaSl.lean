/- Chapter 20: the parts of a block that is lowered. -/
import Derived.Test.YtahikechkggbfaaSk
namespace Go.Proofs.Ytahikechkggbfaa
open Go Go.Ev Go.RowKit
set_option linter.unusedVariables false
set_option linter.unusedSimpArgs false
set_option maxRecDepth 100000
namespace Ls
abbrev IV := Int × Int × Int
def usel (t : Int) (l : List IV) (n : Nat) : List IV := match l[n]? with | some a => l.set n (a.1, a.2.1, max a.2.2 t) | none => l
def useI (t : Int) (l : List IV) (n : Int) : List IV := if 0 ≤ n then usel t l n.toNat else l
def seedl (n : Nat) : List IV := (List.range n).map fun (i : Nat) => (((i : Nat) : Int), ((i : Nat) : Int), ((i : Nat) : Int))
def codeL (c : List II) : Nat → List IV
  | 0 => seedl c.length
  | k + 1 => match c[k]? with | some x => if x.1 = 3 ∨ x.1 = 4 then useI k (useI k (codeL c k) x.2.2.1) x.2.2.2.1 else codeL c k | none => codeL c k
def outL (t : Int) (l : List IV) (xs : List Int) : List IV := xs.foldl (useI t) l
def ofL (c : List II) (od rd : List Int) (fl tg : Int) : List IV := useI c.length (useI c.length (outL c.length (outL c.length (codeL c c.length) od) rd) fl) tg
@[simp] theorem usel_len (t : Int) (l : List IV) (n : Nat) : (usel t l n).length = l.length := by unfold usel; split <;> simp
@[simp] theorem useI_len (t : Int) (l : List IV) (n : Int) : (useI t l n).length = l.length := by unfold useI; split <;> simp
@[simp] theorem seedl_len (n : Nat) : (seedl n).length = n := by simp [seedl]
@[simp] theorem codeL_len (c : List II) : ∀ k, (codeL c k).length = c.length
  | 0 => by simp [codeL]
  | k + 1 => by unfold codeL; split; (split <;> simp [codeL_len c k]); exact codeL_len c k
@[simp] theorem outL_len (t : Int) : ∀ (xs : List Int) (l : List IV), (outL t l xs).length = l.length
  | [], l => rfl
  | x :: xs, l => by show (outL t (useI t l x) xs).length = _; rw [outL_len t xs]; simp
@[simp] theorem ofL_len (c : List II) (od rd : List Int) (fl tg : Int) : (ofL c od rd fl tg).length = c.length := by simp [ofL]
theorem usel_at {t : Int} {l : List IV} {n : Nat} {a : IV} (h : l[n]? = some a) : l.set n (a.1, a.2.1, max a.2.2 t) = usel t l n := by unfold usel; rw [h]
theorem useI_nat (t : Int) (l : List IV) (n : Nat) : useI t l (n : Int) = usel t l n := by unfold useI; rw [if_pos (by omega)]; rfl
theorem useI_no {t : Int} {l : List IV} {n : Int} (h : n < 0) : useI t l n = l := by unfold useI; rw [if_neg (by omega)]
theorem seedl_succ (k : Nat) : seedl k ++ [((k : Int), (k : Int), (k : Int))] = seedl (k + 1) := by simp [seedl, List.range_succ]
theorem codeL_use {c : List II} {k : Nat} {x : II} (h : c[k]? = some x) (hx : x.1 = 3 ∨ x.1 = 4) : codeL c (k + 1) = useI k (useI k (codeL c k) x.2.2.1) x.2.2.2.1 := by show (match c[k]? with | some x => _ | none => _) = _; rw [h]; exact if_pos hx
theorem codeL_no {c : List II} {k : Nat} {x : II} (h : c[k]? = some x) (hx : ¬ (x.1 = 3 ∨ x.1 = 4)) : codeL c (k + 1) = codeL c k := by show (match c[k]? with | some x => _ | none => _) = _; rw [h]; exact if_neg hx
theorem outL_succ {t : Int} {l : List IV} {xs : List Int} {j : Nat} {x : Int} (h : xs[j]? = some x) : outL t l (xs.take (j + 1)) = useI t (outL t l (xs.take j)) x := by unfold outL; rw [List.take_add_one, h]; simp
theorem made_ab {nd nr : Int} {x : II} {k : Int} (h : madeB nd nr x k = true) (hx : x.1 = 3 ∨ x.1 = 4) : (0 ≤ x.2.2.1 ∧ x.2.2.1 < k) ∧ (0 ≤ x.2.2.2.1 ∧ x.2.2.2.1 < k) := by
  unfold madeB at h
  rcases hx with hx | hx <;> simp [hx, valB] at h <;> omega
theorem valB_iff {n k : Int} : valB n k = true ↔ 0 ≤ n ∧ n < k := by simp [valB]
/-- A block that is being lowered. -/
structure LW where
  c : List II
  d : List Int
  r : List Int
  nd : Int
  hd : Int
  nr : Int
  hr : Int
  fl : Int
  tg : Int
  br : Int
/-- The top of a stack is taken, or what was there ahead. -/
def popC (op : Int) (c : List II) (d : List Int) (nd : Int) : List II × List Int × Int × Int := match d.reverse with
  | [] => (c ++ [(op, ((c.length : Nat) : Int), 0, 0, nd)], [], nd + 1, ((c.length : Nat) : Int))
  | x :: t => (c, t.reverse, nd, x)
theorem snoc_at (l : List Int) (x : Int) : (l ++ [x])[l.length]? = some x := by simp
theorem popC_nil (op : Int) (c : List II) (nd : Int) : popC op c [] nd = (c ++ [(op, ((c.length : Nat) : Int), 0, 0, nd)], [], nd + 1, ((c.length : Nat) : Int)) := rfl
theorem popC_snoc (op : Int) (c : List II) (d : List Int) (x nd : Int) : popC op c (d ++ [x]) nd = (c, d, nd, x) := by simp [popC]
def addW (w : LW) (op a b im : Int) : LW := { w with c := w.c ++ [(op, ((w.c.length : Nat) : Int), a, b, im)] }
def newV (w : LW) : Int := ((w.c.length : Nat) : Int)
def popD (w : LW) : LW × Int := let q := popC 1 w.c w.d w.nd; ({ w with c := q.1, d := q.2.1, nd := q.2.2.1 }, q.2.2.2)
def popR (w : LW) : LW × Int := let q := popC 2 w.c w.r w.nr; ({ w with c := q.1, r := q.2.1, nr := q.2.2.1 }, q.2.2.2)
def pushD (w : LW) (l : List Int) : LW := { w with d := w.d ++ l }
def pushR (w : LW) (l : List Int) : LW := { w with r := w.r ++ l }
/-- An instruction is lowered: the stacks' heights left aside. -/
def oneB (op n nx : Int) (w : LW) : LW :=
  if op = 1 ∨ op = 2 then pushD (addW w 0 0 0 n) [newV w]
  else if op = 3 then pushD (popD w).1 [(popD w).2, (popD w).2]
  else if op = 4 then (popD w).1
  else if op = 5 then pushD (popD (popD w).1).1 [(popD w).2, (popD (popD w).1).2]
  else if op = 6 then pushD (popD (popD w).1).1 [(popD (popD w).1).2, (popD w).2, (popD (popD w).1).2]
  else if op = 7 then pushR (popD w).1 [(popD w).2]
  else if op = 8 then pushD (popR w).1 [(popR w).2]
  else if 16 ≤ op ∧ op ≤ 25 then
    let b := (popD w).2; let a := (popD (popD w).1).2; let w2 := (popD (popD w).1).1
    let w3 := { addW w2 4 a b op with fl := newV w2 }
    if op = 25 then w3 else pushD (addW w3 3 a b op) [newV w3]
  else if op = 38 then pushR (addW w 0 0 0 nx) [newV w]
  else if op = 39 then { (popR w).1 with tg := (popR w).2 }
  else if op = 40 then { (popD w).1 with tg := (popD w).2 }
  else if 33 ≤ op ∧ op ≤ 37 then { w with br := op }
  else w
def topW (w : LW) : LW := { w with hd := max w.hd (((w.d.length : Nat) : Int) - w.nd), hr := max w.hr (((w.r.length : Nat) : Int) - w.nr) }
def oneP (op n nx : Int) (w : LW) : LW := topW (oneB op n nx w)
noncomputable def f37b : Code := Try.f37.body.getD .skip
theorem f37_body : Try.f37.body = some f37b := by kernel_rfl
theorem f37_fn : T8.fn 37 = some Try.f37 := by kernel_rfl
theorem add_s {c : List II} {d jd r jr : List Int} {nd hd nr hr fl tg br ct : Int} {op x a b im : Int} (hcl : c.length < 100000) : SCall Try.prog T8 37 #[.pointer (some ⟨0, 0, none⟩), .agg #[.int .i64 op, .int .i64 x, .int .i64 a, .int .i64 b, .int .u32 im]] (hq [some ⟨[Value.slice (some ⟨1, 0, none⟩) c.length (unk + 5), .int .i64 0, .int .i64 0, .int .i64 0, .int .i64 0, .slice none 0 0, .slice none 0 0, .int .i64 fl, .int .u32 0, .int .i64 tg, .int .i64 br, .int .u32 0, .int .i64 ct, .int .i64 0, .slice (some ⟨2, 0, none⟩) d.length (unk + 1), .int .i64 nd, .int .i64 hd, .int .i64 1, .slice (some ⟨3, 0, none⟩) r.length (unk + 1), .int .i64 nr, .int .i64 hr, .int .i64 2], 68, false⟩, some ⟨(tab iiC c), 50, false⟩, some ⟨(tab inC (d ++ jd)), 3, false⟩, some ⟨(tab inC (r ++ jr)), 3, false⟩]) fun v h => v = .int .i64 ((c.length : Nat) : Int) ∧ h = hq [some ⟨[Value.slice (some ⟨4, 0, none⟩) ((c ++ [((op : Int), ((c.length : Nat) : Int), a, b, im)]).length) (unk + 5), .int .i64 0, .int .i64 0, .int .i64 0, .int .i64 0, .slice none 0 0, .slice none 0 0, .int .i64 fl, .int .u32 0, .int .i64 tg, .int .i64 br, .int .u32 0, .int .i64 ct, .int .i64 0, .slice (some ⟨2, 0, none⟩) d.length (unk + 1), .int .i64 nd, .int .i64 hd, .int .i64 1, .slice (some ⟨3, 0, none⟩) r.length (unk + 1), .int .i64 nr, .int .i64 hr, .int .i64 2], 68, false⟩, none, some ⟨(tab inC (d ++ jd)), 3, false⟩, some ⟨(tab inC (r ++ jr)), 3, false⟩, some ⟨(tab iiC (c ++ [((op : Int), ((c.length : Nat) : Int), a, b, im)])), 50, false⟩] := by
  refine scall_sd 26 _ 4 kr f37_fn f37_body rfl rfl rfl fun X hX => ?_
  refine sd_run 28 ?_
  refine sd_grow 20 26 26 50 4 39 1 c.length 1 6 (.slice (some ⟨5, 0, none⟩) 1 1) (tab iiC c) [Value.int .i64 op, .int .i64 ((c.length : Nat) : Int), .int .i64 a, .int .i64 b, .int .u32 im] (tab iiC (c ++ [(op, ((c.length : Nat) : Int), a, b, im)])) kr kr kr kr kr ((tab_len iiC_len _).trans (by first | rfl | (simp only [List.length_append, List.length_cons, List.length_nil, List.length_set] at *; done))) kr kr (by decide) kr (by omega) kr (tab_snoc c (op, ((c.length : Nat) : Int), a, b, im)) ?_
  refine sd_see 20 (.slice (some ⟨6, 0, none⟩) ((c ++ [(op, ((c.length : Nat) : Int), a, b, im)]).length) (unk + 5)) (see_len (n := (c.length + 1)) kr (by simp)) ?_
  refine sd_run 14 ?_
  refine sd_end (.int .i64 ((c.length : Nat) : Int)) hX kr kr kr (.int .i64 ((c.length : Nat) : Int)) (hq [some ⟨[Value.slice (some ⟨4, 0, none⟩) ((c ++ [((op : Int), ((c.length : Nat) : Int), a, b, im)]).length) (unk + 5), .int .i64 0, .int .i64 0, .int .i64 0, .int .i64 0, .slice none 0 0, .slice none 0 0, .int .i64 fl, .int .u32 0, .int .i64 tg, .int .i64 br, .int .u32 0, .int .i64 ct, .int .i64 0, .slice (some ⟨2, 0, none⟩) d.length (unk + 1), .int .i64 nd, .int .i64 hd, .int .i64 1, .slice (some ⟨3, 0, none⟩) r.length (unk + 1), .int .i64 nr, .int .i64 hr, .int .i64 2], 68, false⟩, none, some ⟨(tab inC (d ++ jd)), 3, false⟩, some ⟨(tab inC (r ++ jr)), 3, false⟩, some ⟨(tab iiC (c ++ [((op : Int), ((c.length : Nat) : Int), a, b, im)])), 50, false⟩]) (emOf [some 0, some 1, some 2, some 3, some 6]) (sub_of kr kr ⟨bk_ren kr kr, bk_flat (tab inC (d ++ jd)) kr (tab_plain inC_pl _) rfl, bk_flat (tab inC (r ++ jr)) kr (tab_plain inC_pl _) rfl, bk_flat (tab iiC (c ++ [(op, ((c.length : Nat) : Int), a, b, im)])) kr (tab_plain iiC_pl _) (by rfl), True.intro⟩) (rn2_sound _ _ kr) ⟨rfl, rfl⟩
noncomputable def f35b : Code := Try.f35.body.getD .skip
theorem f35_body : Try.f35.body = some f35b := by kernel_rfl
theorem f35_fn : T8.fn 35 = some Try.f35 := by kernel_rfl
theorem constant_s {c : List II} {d jd r jr : List Int} {nd hd nr hr fl tg br ct : Int} {im : Int} (hcl : c.length < 100000) : SCall Try.prog T8 35 #[.pointer (some ⟨0, 0, none⟩), .int .u32 im] (hq [some ⟨[Value.slice (some ⟨1, 0, none⟩) c.length (unk + 5), .int .i64 0, .int .i64 0, .int .i64 0, .int .i64 0, .slice none 0 0, .slice none 0 0, .int .i64 fl, .int .u32 0, .int .i64 tg, .int .i64 br, .int .u32 0, .int .i64 ct, .int .i64 0, .slice (some ⟨2, 0, none⟩) d.length (unk + 1), .int .i64 nd, .int .i64 hd, .int .i64 1, .slice (some ⟨3, 0, none⟩) r.length (unk + 1), .int .i64 nr, .int .i64 hr, .int .i64 2], 68, false⟩, some ⟨(tab iiC c), 50, false⟩, some ⟨(tab inC (d ++ jd)), 3, false⟩, some ⟨(tab inC (r ++ jr)), 3, false⟩]) fun v h => v = .int .i64 ((c.length : Nat) : Int) ∧ h = hq [some ⟨[Value.slice (some ⟨4, 0, none⟩) ((c ++ [((0 : Int), ((c.length : Nat) : Int), 0, 0, im)]).length) (unk + 5), .int .i64 0, .int .i64 0, .int .i64 0, .int .i64 0, .slice none 0 0, .slice none 0 0, .int .i64 fl, .int .u32 0, .int .i64 tg, .int .i64 br, .int .u32 0, .int .i64 ct, .int .i64 0, .slice (some ⟨2, 0, none⟩) d.length (unk + 1), .int .i64 nd, .int .i64 hd, .int .i64 1, .slice (some ⟨3, 0, none⟩) r.length (unk + 1), .int .i64 nr, .int .i64 hr, .int .i64 2], 68, false⟩, none, some ⟨(tab inC (d ++ jd)), 3, false⟩, some ⟨(tab inC (r ++ jr)), 3, false⟩, some ⟨(tab iiC (c ++ [((0 : Int), ((c.length : Nat) : Int), 0, 0, im)])), 50, false⟩] := by
  refine scall_sd 9 _ 4 kr f35_fn f35_body rfl rfl rfl fun X hX => ?_
  refine sd_run 10 ?_
  refine sd_call 8 37 #[.pointer (some ⟨0, 0, none⟩), .agg #[.int .i64 0, .int .i64 0, .int .i64 0, .int .i64 0, .int .u32 im]] (add_s (c := c) (fl := fl) (tg := tg) (br := br) (ct := ct) (d := d) (jd := jd) (nd := nd) (hd := hd) (r := r) (jr := jr) (nr := nr) (hr := hr) (op := 0) (x := 0) (a := 0) (b := 0) (im := im) hcl) (emOf [some 0, some 1, some 2, some 3]) kr kr kr (hn_of 0 kr ⟨bk_ren kr kr, bk_flat (tab iiC c) kr (tab_plain iiC_pl _) rfl, bk_flat (tab inC (d ++ jd)) kr (tab_plain inC_pl _) rfl, bk_flat (tab inC (r ++ jr)) kr (tab_plain inC_pl _) rfl, True.intro⟩) (rnG_sound rn2_sound _ _ kr) ?_
  rintro v9 k9 ⟨rfl, rfl⟩
  refine ⟨.int .i64 ((c.length : Nat) : Int), hq [some ⟨[Value.slice (some ⟨4, 0, none⟩) ((c ++ [((0 : Int), ((c.length : Nat) : Int), 0, 0, im)]).length) (unk + 5), .int .i64 0, .int .i64 0, .int .i64 0, .int .i64 0, .slice none 0 0, .slice none 0 0, .int .i64 fl, .int .u32 0, .int .i64 tg, .int .i64 br, .int .u32 0, .int .i64 ct, .int .i64 0, .slice (some ⟨2, 0, none⟩) d.length (unk + 1), .int .i64 nd, .int .i64 hd, .int .i64 1, .slice (some ⟨3, 0, none⟩) r.length (unk + 1), .int .i64 nr, .int .i64 hr, .int .i64 2], 68, false⟩, none, some ⟨(tab inC (d ++ jd)), 3, false⟩, some ⟨(tab inC (r ++ jr)), 3, false⟩, some ⟨(tab iiC (c ++ [((0 : Int), ((c.length : Nat) : Int), 0, 0, im)])), 50, false⟩], glue_of kr kr ⟨cov_ren 0 kr kr, cov_same 2 (hn_of 0 kr ⟨bk_ren kr kr, bk_flat (tab iiC c) kr (tab_plain iiC_pl _) rfl, bk_flat (tab inC (d ++ jd)) kr (tab_plain inC_pl _) rfl, bk_flat (tab inC (r ++ jr)) kr (tab_plain inC_pl _) rfl, True.intro⟩) kr kr kr kr kr, cov_same 3 (hn_of 0 kr ⟨bk_ren kr kr, bk_flat (tab iiC c) kr (tab_plain iiC_pl _) rfl, bk_flat (tab inC (d ++ jd)) kr (tab_plain inC_pl _) rfl, bk_flat (tab inC (r ++ jr)) kr (tab_plain inC_pl _) rfl, True.intro⟩) kr kr kr kr kr, cov_flat 4 kr kr (tab_plain iiC_pl _), True.intro⟩, rn2_sound _ _ kr, ?_⟩
  refine sd_run 4 ?_
  refine sd_end (.int .i64 ((c.length : Nat) : Int)) hX kr kr kr (.int .i64 ((c.length : Nat) : Int)) (hq [some ⟨[Value.slice (some ⟨4, 0, none⟩) ((c ++ [((0 : Int), ((c.length : Nat) : Int), 0, 0, im)]).length) (unk + 5), .int .i64 0, .int .i64 0, .int .i64 0, .int .i64 0, .slice none 0 0, .slice none 0 0, .int .i64 fl, .int .u32 0, .int .i64 tg, .int .i64 br, .int .u32 0, .int .i64 ct, .int .i64 0, .slice (some ⟨2, 0, none⟩) d.length (unk + 1), .int .i64 nd, .int .i64 hd, .int .i64 1, .slice (some ⟨3, 0, none⟩) r.length (unk + 1), .int .i64 nr, .int .i64 hr, .int .i64 2], 68, false⟩, none, some ⟨(tab inC (d ++ jd)), 3, false⟩, some ⟨(tab inC (r ++ jr)), 3, false⟩, some ⟨(tab iiC (c ++ [((0 : Int), ((c.length : Nat) : Int), 0, 0, im)])), 50, false⟩]) (emOf [some 0, some 1, some 2, some 3, some 4]) (sub_of kr kr ⟨bk_ren kr kr, bk_flat (tab inC (d ++ jd)) kr (tab_plain inC_pl _) rfl, bk_flat (tab inC (r ++ jr)) kr (tab_plain inC_pl _) rfl, bk_flat (tab iiC (c ++ [((0 : Int), ((c.length : Nat) : Int), 0, 0, im)])) kr (tab_plain iiC_pl _) rfl, True.intro⟩) (rn2_sound _ _ kr) ⟨rfl, rfl⟩
noncomputable def f36b : Code := Try.f36.body.getD .skip
theorem f36_body : Try.f36.body = some f36b := by kernel_rfl
theorem f36_fn : T8.fn 36 = some Try.f36 := by kernel_rfl
theorem popd_s {c : List II} {d jd r jr : List Int} {nd hd nr hr fl tg br ct : Int} (hcl : c.length < 100000) (hdl : d.length < 100000) (hrl : r.length < 100000) (hnd : 0 ≤ nd ∧ nd < 100000) (hnr : 0 ≤ nr ∧ nr < 100000) : SCall Try.prog T8 36 #[.pointer (some ⟨0, 0, none⟩), .pointer (some ⟨0, 14, none⟩)] (hq [some ⟨[Value.slice (some ⟨1, 0, none⟩) c.length (unk + 5), .int .i64 0, .int .i64 0, .int .i64 0, .int .i64 0, .slice none 0 0, .slice none 0 0, .int .i64 fl, .int .u32 0, .int .i64 tg, .int .i64 br, .int .u32 0, .int .i64 ct, .int .i64 0, .slice (some ⟨2, 0, none⟩) d.length (unk + 1), .int .i64 nd, .int .i64 hd, .int .i64 1, .slice (some ⟨3, 0, none⟩) r.length (unk + 1), .int .i64 nr, .int .i64 hr, .int .i64 2], 68, false⟩, some ⟨(tab iiC c), 50, false⟩, some ⟨(tab inC (d ++ jd)), 3, false⟩, some ⟨(tab inC (r ++ jr)), 3, false⟩]) fun v h => ∃ (c1 : List II) (d1 j1 : List Int) (m1 n1 : Int), popC 1 c d nd = (c1, d1, m1, n1) ∧ v = .int .i64 n1 ∧ h = hq [some ⟨[Value.slice (some ⟨4, 0, none⟩) c1.length (unk + 5), .int .i64 0, .int .i64 0, .int .i64 0, .int .i64 0, .slice none 0 0, .slice none 0 0, .int .i64 fl, .int .u32 0, .int .i64 tg, .int .i64 br, .int .u32 0, .int .i64 ct, .int .i64 0, .slice (some ⟨5, 0, none⟩) d1.length (unk + 1), .int .i64 m1, .int .i64 hd, .int .i64 1, .slice (some ⟨3, 0, none⟩) r.length (unk + 1), .int .i64 nr, .int .i64 hr, .int .i64 2], 68, false⟩, none, none, some ⟨(tab inC (r ++ jr)), 3, false⟩, some ⟨(tab iiC c1), 50, false⟩, some ⟨(tab inC (d1 ++ j1)), 3, false⟩] := by
  rcases nil_or_snoc d with hk | ⟨l_, x_, hk⟩
  · skip
    subst hk
    refine scall_sd 52 _ 4 kr f36_fn f36_body rfl rfl rfl fun X hX => ?_
    refine sd_run 13 ?_
    refine sd_see 11 (.int .i64 0) (see_int (x := ((([] : List Int).length : Nat) : Int)) kr rfl) ?_
    refine sd_run 20 ?_
    refine sd_see 36 (.int .i64 (nd + 1)) (see_int (x := (IntKind.i64.wrap (nd + 1))) kr (w64 (by omega) (by omega) (by omega))) ?_
    refine sd_run 17 ?_
    refine sd_see 48 (.int .i64 ((nd + 1) - 1)) (see_int (x := (IntKind.i64.wrap ((nd + 1) - 1))) kr (w64 (by omega) (by omega) (by omega))) ?_
    refine sd_run 1 ?_
    refine sd_see 49 (.int .u32 nd) (see_int (x := (IntKind.u32.wrap ((nd + 1) - 1))) kr (by rw [show (nd + 1 - 1 : Int) = nd by omega]; exact wu32 rfl (by omega) (by omega))) ?_
    refine sd_run 1 ?_
    refine sd_call 51 37 #[.pointer (some ⟨0, 0, none⟩), .agg #[.int .i64 1, .int .i64 0, .int .i64 0, .int .i64 0, .int .u32 nd]] (add_s (c := c) (fl := fl) (tg := tg) (br := br) (ct := ct) (d := ([] : List Int)) (jd := jd) (nd := (nd + 1)) (hd := hd) (r := r) (jr := jr) (nr := nr) (hr := hr) (op := 1) (x := 0) (a := 0) (b := 0) (im := nd) hcl) (emOf [some 0, some 1, some 2, some 3]) kr kr kr (hn_of 0 kr ⟨bk_ren kr kr, bk_flat (tab iiC c) kr (tab_plain iiC_pl _) rfl, bk_flat (tab inC (([] : List Int) ++ jd)) kr (tab_plain inC_pl _) rfl, bk_flat (tab inC (r ++ jr)) kr (tab_plain inC_pl _) rfl, True.intro⟩) (rnG_sound rn2_sound _ _ kr) ?_
    rintro v9 k9 ⟨rfl, rfl⟩
    refine ⟨.int .i64 ((c.length : Nat) : Int), hq [some ⟨[Value.slice (some ⟨4, 0, none⟩) ((c ++ [((1 : Int), ((c.length : Nat) : Int), 0, 0, nd)]).length) (unk + 5), .int .i64 0, .int .i64 0, .int .i64 0, .int .i64 0, .slice none 0 0, .slice none 0 0, .int .i64 fl, .int .u32 0, .int .i64 tg, .int .i64 br, .int .u32 0, .int .i64 ct, .int .i64 0, .slice (some ⟨2, 0, none⟩) (([] : List Int).length) (unk + 1), .int .i64 (nd + 1), .int .i64 hd, .int .i64 1, .slice (some ⟨3, 0, none⟩) r.length (unk + 1), .int .i64 nr, .int .i64 hr, .int .i64 2], 68, false⟩, none, some ⟨(tab inC (([] : List Int) ++ jd)), 3, false⟩, some ⟨(tab inC (r ++ jr)), 3, false⟩, some ⟨(tab iiC (c ++ [((1 : Int), ((c.length : Nat) : Int), 0, 0, nd)])), 50, false⟩], glue_of kr kr ⟨cov_ren 0 kr kr, cov_same 2 (hn_of 0 kr ⟨bk_ren kr kr, bk_flat (tab iiC c) kr (tab_plain iiC_pl _) rfl, bk_flat (tab inC (([] : List Int) ++ jd)) kr (tab_plain inC_pl _) rfl, bk_flat (tab inC (r ++ jr)) kr (tab_plain inC_pl _) rfl, True.intro⟩) kr kr kr kr kr, cov_same 3 (hn_of 0 kr ⟨bk_ren kr kr, bk_flat (tab iiC c) kr (tab_plain iiC_pl _) rfl, bk_flat (tab inC (([] : List Int) ++ jd)) kr (tab_plain inC_pl _) rfl, bk_flat (tab inC (r ++ jr)) kr (tab_plain inC_pl _) rfl, True.intro⟩) kr kr kr kr kr, cov_flat 4 kr kr (tab_plain iiC_pl _), True.intro⟩, rn2_sound _ _ kr, ?_⟩
    refine sd_run 4 ?_
    refine sd_end (.int .i64 ((c.length : Nat) : Int)) hX kr kr kr (.int .i64 ((c.length : Nat) : Int)) (hq [some ⟨[Value.slice (some ⟨4, 0, none⟩) ((c ++ [(1, ((c.length : Nat) : Int), 0, 0, nd)]).length) (unk + 5), .int .i64 0, .int .i64 0, .int .i64 0, .int .i64 0, .slice none 0 0, .slice none 0 0, .int .i64 fl, .int .u32 0, .int .i64 tg, .int .i64 br, .int .u32 0, .int .i64 ct, .int .i64 0, .slice (some ⟨5, 0, none⟩) ([].length) (unk + 1), .int .i64 (nd + 1), .int .i64 hd, .int .i64 1, .slice (some ⟨3, 0, none⟩) r.length (unk + 1), .int .i64 nr, .int .i64 hr, .int .i64 2], 68, false⟩, none, none, some ⟨(tab inC (r ++ jr)), 3, false⟩, some ⟨(tab iiC (c ++ [(1, ((c.length : Nat) : Int), 0, 0, nd)])), 50, false⟩, some ⟨(tab inC ([] ++ jd)), 3, false⟩]) (emOf [some 0, some 1, some 2, some 3, some 4, some 2]) (sub_of kr kr ⟨bk_ren kr kr, bk_flat (tab inC (r ++ jr)) kr (tab_plain inC_pl _) rfl, bk_flat (tab iiC (c ++ [((1 : Int), ((c.length : Nat) : Int), 0, 0, nd)])) kr (tab_plain iiC_pl _) (by rfl), bk_flat (tab inC (([] : List Int) ++ jd)) kr (tab_plain inC_pl _) (by rfl), True.intro⟩) (rn2_sound _ _ kr) ⟨(c ++ [(1, ((c.length : Nat) : Int), 0, 0, nd)]), [], jd, (nd + 1), ((c.length : Nat) : Int), popC_nil 1 c nd, rfl, rfl⟩
  · skip
    subst hk
    rw [List.length_append] at hdl
    simp only [List.length_cons, List.length_nil] at hdl
    refine scall_sd 52 _ 4 kr f36_fn f36_body rfl rfl rfl fun X hX => ?_
    refine sd_run 13 ?_
    refine sd_see 11 (.int .i64 (((l_.length + 1) : Nat) : Int)) (see_int (x := (((l_ ++ [x_]).length : Nat) : Int)) kr (by simp)) ?_
    refine sd_run 1 ?_
    refine sd_see 12 (.int .i64 ((l_.length : Nat) : Int)) (see_int (x := (IntKind.i64.wrap ((((l_.length + 1) : Nat) : Int) - 1))) kr (by rw [show (((l_.length + 1 : Nat) : Int) - 1) = ((l_.length : Nat) : Int) by omega]; exact w64 rfl (by omega) (by omega))) ?_
    refine sd_run 7 ?_
    refine sd_see 14 (.bool true) (see_bool kr ((decide_eq_true (by omega)) : ((decide (((l_.length : Nat) : Int) ≥ 0))) = true)) ?_
    refine sd_run 10 ?_
    refine sd_ix 20 (.pointer (some ⟨2, 0 + l_.length * 1, none⟩)) l_.length ((l_ ++ [x_]).length) kr kr kr (by first | omega | simp) ?_
    refine sd_ld 21 (.int .i64 x_) 3 (.pointer (some ⟨2, 0 + l_.length * 1, none⟩)) kr kr kr (ld_cell (l := (l_ ++ [x_]) ++ jd) (e := 3) (ro := false) (k := l_.length) (j := 0) inC_len kr kr kr (app_at (snoc_at _ _)) rfl) ?_
    refine sd_run 11 ?_
    refine sd_slh 28 22 3 1 2 0 ((l_ ++ [x_]).length) l_.length .i64 kr kr kr kr kr (by first | omega | simp) ?_
    refine sd_run 13 ?_
    refine sd_end (.int .i64 x_) hX kr kr kr (.int .i64 x_) (hq [some ⟨[Value.slice (some ⟨4, 0, none⟩) c.length (unk + 5), .int .i64 0, .int .i64 0, .int .i64 0, .int .i64 0, .slice none 0 0, .slice none 0 0, .int .i64 fl, .int .u32 0, .int .i64 tg, .int .i64 br, .int .u32 0, .int .i64 ct, .int .i64 0, .slice (some ⟨5, 0, none⟩) l_.length (unk + 1), .int .i64 nd, .int .i64 hd, .int .i64 1, .slice (some ⟨3, 0, none⟩) r.length (unk + 1), .int .i64 nr, .int .i64 hr, .int .i64 2], 68, false⟩, none, none, some ⟨(tab inC (r ++ jr)), 3, false⟩, some ⟨(tab iiC c), 50, false⟩, some ⟨(tab inC (l_ ++ (x_ :: jd))), 3, false⟩]) (emOf [some 0, some 1, some 2, some 3, some 1, some 2]) (sub_of kr kr ⟨bk_ren kr kr, bk_flat (tab inC (r ++ jr)) kr (tab_plain inC_pl _) rfl, bk_flat (tab iiC c) kr (tab_plain iiC_pl _) rfl, bk_flat (tab inC ((l_ ++ [x_]) ++ jd)) kr (tab_plain inC_pl _) (congrArg (tab inC) (by simp)), True.intro⟩) (rn2_sound _ _ kr) ⟨c, l_, (x_ :: jd), nd, x_, popC_snoc 1 c l_ x_ nd, rfl, rfl⟩
theorem popr_s {c : List II} {d jd r jr : List Int} {nd hd nr hr fl tg br ct : Int} (hcl : c.length < 100000) (hdl : d.length < 100000) (hrl : r.length < 100000) (hnd : 0 ≤ nd ∧ nd < 100000) (hnr : 0 ≤ nr ∧ nr < 100000) : SCall Try.prog T8 36 #[.pointer (some ⟨0, 0, none⟩), .pointer (some ⟨0, 18, none⟩)] (hq [some ⟨[Value.slice (some ⟨1, 0, none⟩) c.length (unk + 5), .int .i64 0, .int .i64 0, .int .i64 0, .int .i64 0, .slice none 0 0, .slice none 0 0, .int .i64 fl, .int .u32 0, .int .i64 tg, .int .i64 br, .int .u32 0, .int .i64 ct, .int .i64 0, .slice (some ⟨2, 0, none⟩) d.length (unk + 1), .int .i64 nd, .int .i64 hd, .int .i64 1, .slice (some ⟨3, 0, none⟩) r.length (unk + 1), .int .i64 nr, .int .i64 hr, .int .i64 2], 68, false⟩, some ⟨(tab iiC c), 50, false⟩, some ⟨(tab inC (d ++ jd)), 3, false⟩, some ⟨(tab inC (r ++ jr)), 3, false⟩]) fun v h => ∃ (c1 : List II) (d1 j1 : List Int) (m1 n1 : Int), popC 2 c r nr = (c1, d1, m1, n1) ∧ v = .int .i64 n1 ∧ h = hq [some ⟨[Value.slice (some ⟨4, 0, none⟩) c1.length (unk + 5), .int .i64 0, .int .i64 0, .int .i64 0, .int .i64 0, .slice none 0 0, .slice none 0 0, .int .i64 fl, .int .u32 0, .int .i64 tg, .int .i64 br, .int .u32 0, .int .i64 ct, .int .i64 0, .slice (some ⟨2, 0, none⟩) d.length (unk + 1), .int .i64 nd, .int .i64 hd, .int .i64 1, .slice (some ⟨5, 0, none⟩) d1.length (unk + 1), .int .i64 m1, .int .i64 hr, .int .i64 2], 68, false⟩, none, some ⟨(tab inC (d ++ jd)), 3, false⟩, none, some ⟨(tab iiC c1), 50, false⟩, some ⟨(tab inC (d1 ++ j1)), 3, false⟩] := by
  rcases nil_or_snoc r with hk | ⟨l_, x_, hk⟩
  · skip
    subst hk
    refine scall_sd 52 _ 4 kr f36_fn f36_body rfl rfl rfl fun X hX => ?_
    refine sd_run 13 ?_
    refine sd_see 11 (.int .i64 0) (see_int (x := ((([] : List Int).length : Nat) : Int)) kr rfl) ?_
    refine sd_run 20 ?_
    refine sd_see 36 (.int .i64 (nr + 1)) (see_int (x := (IntKind.i64.wrap (nr + 1))) kr (w64 (by omega) (by omega) (by omega))) ?_
    refine sd_run 17 ?_
    refine sd_see 48 (.int .i64 ((nr + 1) - 1)) (see_int (x := (IntKind.i64.wrap ((nr + 1) - 1))) kr (w64 (by omega) (by omega) (by omega))) ?_
    refine sd_run 1 ?_
    refine sd_see 49 (.int .u32 nr) (see_int (x := (IntKind.u32.wrap ((nr + 1) - 1))) kr (by rw [show (nr + 1 - 1 : Int) = nr by omega]; exact wu32 rfl (by omega) (by omega))) ?_
    refine sd_run 1 ?_
    refine sd_call 51 37 #[.pointer (some ⟨0, 0, none⟩), .agg #[.int .i64 2, .int .i64 0, .int .i64 0, .int .i64 0, .int .u32 nr]] (add_s (c := c) (fl := fl) (tg := tg) (br := br) (ct := ct) (d := d) (jd := jd) (nd := nd) (hd := hd) (r := ([] : List Int)) (jr := jr) (nr := (nr + 1)) (hr := hr) (op := 2) (x := 0) (a := 0) (b := 0) (im := nr) hcl) (emOf [some 0, some 1, some 2, some 3]) kr kr kr (hn_of 0 kr ⟨bk_ren kr kr, bk_flat (tab iiC c) kr (tab_plain iiC_pl _) rfl, bk_flat (tab inC (d ++ jd)) kr (tab_plain inC_pl _) rfl, bk_flat (tab inC (([] : List Int) ++ jr)) kr (tab_plain inC_pl _) rfl, True.intro⟩) (rnG_sound rn2_sound _ _ kr) ?_
    rintro v9 k9 ⟨rfl, rfl⟩
    refine ⟨.int .i64 ((c.length : Nat) : Int), hq [some ⟨[Value.slice (some ⟨4, 0, none⟩) ((c ++ [((2 : Int), ((c.length : Nat) : Int), 0, 0, nr)]).length) (unk + 5), .int .i64 0, .int .i64 0, .int .i64 0, .int .i64 0, .slice none 0 0, .slice none 0 0, .int .i64 fl, .int .u32 0, .int .i64 tg, .int .i64 br, .int .u32 0, .int .i64 ct, .int .i64 0, .slice (some ⟨2, 0, none⟩) d.length (unk + 1), .int .i64 nd, .int .i64 hd, .int .i64 1, .slice (some ⟨3, 0, none⟩) (([] : List Int).length) (unk + 1), .int .i64 (nr + 1), .int .i64 hr, .int .i64 2], 68, false⟩, none, some ⟨(tab inC (d ++ jd)), 3, false⟩, some ⟨(tab inC (([] : List Int) ++ jr)), 3, false⟩, some ⟨(tab iiC (c ++ [((2 : Int), ((c.length : Nat) : Int), 0, 0, nr)])), 50, false⟩], glue_of kr kr ⟨cov_ren 0 kr kr, cov_same 2 (hn_of 0 kr ⟨bk_ren kr kr, bk_flat (tab iiC c) kr (tab_plain iiC_pl _) rfl, bk_flat (tab inC (d ++ jd)) kr (tab_plain inC_pl _) rfl, bk_flat (tab inC (([] : List Int) ++ jr)) kr (tab_plain inC_pl _) rfl, True.intro⟩) kr kr kr kr kr, cov_same 3 (hn_of 0 kr ⟨bk_ren kr kr, bk_flat (tab iiC c) kr (tab_plain iiC_pl _) rfl, bk_flat (tab inC (d ++ jd)) kr (tab_plain inC_pl _) rfl, bk_flat (tab inC (([] : List Int) ++ jr)) kr (tab_plain inC_pl _) rfl, True.intro⟩) kr kr kr kr kr, cov_flat 4 kr kr (tab_plain iiC_pl _), True.intro⟩, rn2_sound _ _ kr, ?_⟩
    refine sd_run 4 ?_
    refine sd_end (.int .i64 ((c.length : Nat) : Int)) hX kr kr kr (.int .i64 ((c.length : Nat) : Int)) (hq [some ⟨[Value.slice (some ⟨4, 0, none⟩) ((c ++ [(2, ((c.length : Nat) : Int), 0, 0, nr)]).length) (unk + 5), .int .i64 0, .int .i64 0, .int .i64 0, .int .i64 0, .slice none 0 0, .slice none 0 0, .int .i64 fl, .int .u32 0, .int .i64 tg, .int .i64 br, .int .u32 0, .int .i64 ct, .int .i64 0, .slice (some ⟨2, 0, none⟩) d.length (unk + 1), .int .i64 nd, .int .i64 hd, .int .i64 1, .slice (some ⟨5, 0, none⟩) ([].length) (unk + 1), .int .i64 (nr + 1), .int .i64 hr, .int .i64 2], 68, false⟩, none, some ⟨(tab inC (d ++ jd)), 3, false⟩, none, some ⟨(tab iiC (c ++ [(2, ((c.length : Nat) : Int), 0, 0, nr)])), 50, false⟩, some ⟨(tab inC ([] ++ jr)), 3, false⟩]) (emOf [some 0, some 1, some 2, some 3, some 4, some 3]) (sub_of kr kr ⟨bk_ren kr kr, bk_flat (tab inC (d ++ jd)) kr (tab_plain inC_pl _) rfl, bk_flat (tab iiC (c ++ [((2 : Int), ((c.length : Nat) : Int), 0, 0, nr)])) kr (tab_plain iiC_pl _) (by rfl), bk_flat (tab inC (([] : List Int) ++ jr)) kr (tab_plain inC_pl _) (by rfl), True.intro⟩) (rn2_sound _ _ kr) ⟨(c ++ [(2, ((c.length : Nat) : Int), 0, 0, nr)]), [], jr, (nr + 1), ((c.length : Nat) : Int), popC_nil 2 c nr, rfl, rfl⟩
  · skip
    subst hk
    rw [List.length_append] at hrl
    simp only [List.length_cons, List.length_nil] at hrl
    refine scall_sd 52 _ 4 kr f36_fn f36_body rfl rfl rfl fun X hX => ?_
    refine sd_run 13 ?_
    refine sd_see 11 (.int .i64 (((l_.length + 1) : Nat) : Int)) (see_int (x := (((l_ ++ [x_]).length : Nat) : Int)) kr (by simp)) ?_
    refine sd_run 1 ?_
    refine sd_see 12 (.int .i64 ((l_.length : Nat) : Int)) (see_int (x := (IntKind.i64.wrap ((((l_.length + 1) : Nat) : Int) - 1))) kr (by rw [show (((l_.length + 1 : Nat) : Int) - 1) = ((l_.length : Nat) : Int) by omega]; exact w64 rfl (by omega) (by omega))) ?_
    refine sd_run 7 ?_
    refine sd_see 14 (.bool true) (see_bool kr ((decide_eq_true (by omega)) : ((decide (((l_.length : Nat) : Int) ≥ 0))) = true)) ?_
    refine sd_run 10 ?_
    refine sd_ix 20 (.pointer (some ⟨3, 0 + l_.length * 1, none⟩)) l_.length ((l_ ++ [x_]).length) kr kr kr (by first | omega | simp) ?_
    refine sd_ld 21 (.int .i64 x_) 3 (.pointer (some ⟨3, 0 + l_.length * 1, none⟩)) kr kr kr (ld_cell (l := (l_ ++ [x_]) ++ jr) (e := 3) (ro := false) (k := l_.length) (j := 0) inC_len kr kr kr (app_at (snoc_at _ _)) rfl) ?_
    refine sd_run 11 ?_
    refine sd_slh 28 22 3 1 3 0 ((l_ ++ [x_]).length) l_.length .i64 kr kr kr kr kr (by first | omega | simp) ?_
    refine sd_run 13 ?_
    refine sd_end (.int .i64 x_) hX kr kr kr (.int .i64 x_) (hq [some ⟨[Value.slice (some ⟨4, 0, none⟩) c.length (unk + 5), .int .i64 0, .int .i64 0, .int .i64 0, .int .i64 0, .slice none 0 0, .slice none 0 0, .int .i64 fl, .int .u32 0, .int .i64 tg, .int .i64 br, .int .u32 0, .int .i64 ct, .int .i64 0, .slice (some ⟨2, 0, none⟩) d.length (unk + 1), .int .i64 nd, .int .i64 hd, .int .i64 1, .slice (some ⟨5, 0, none⟩) l_.length (unk + 1), .int .i64 nr, .int .i64 hr, .int .i64 2], 68, false⟩, none, some ⟨(tab inC (d ++ jd)), 3, false⟩, none, some ⟨(tab iiC c), 50, false⟩, some ⟨(tab inC (l_ ++ (x_ :: jr))), 3, false⟩]) (emOf [some 0, some 1, some 2, some 3, some 1, some 3]) (sub_of kr kr ⟨bk_ren kr kr, bk_flat (tab inC (d ++ jd)) kr (tab_plain inC_pl _) rfl, bk_flat (tab iiC c) kr (tab_plain iiC_pl _) rfl, bk_flat (tab inC ((l_ ++ [x_]) ++ jr)) kr (tab_plain inC_pl _) (congrArg (tab inC) (by simp)), True.intro⟩) (rn2_sound _ _ kr) ⟨c, l_, (x_ :: jr), nr, x_, popC_snoc 2 c l_ x_ nr, rfl, rfl⟩
end Ls
end Go.Proofs.Ytahikechkggbfaa
