/- Chapter 19: an instruction is lowered. -/
import Derived.Test.YtgpphhdndmdlgaaKe
namespace Go.Proofs.Ytgpphhdndmdlgaa
open Go Go.Ev Go.RowKit
set_option linter.unusedVariables false
set_option linter.unusedSimpArgs false
set_option maxRecDepth 100000
namespace Ls
theorem popC_len {op : Int} {c c1 : List II} {d d1 : List Int} {nd m1 n1 : Int} (h : popC op c d nd = (c1, d1, m1, n1)) : c1.length ≤ c.length + 1 ∧ d1.length ≤ d.length ∧ nd ≤ m1 ∧ m1 ≤ nd + 1 := by
 rcases nil_or_snoc d with rfl | ⟨l, x, rfl⟩
 ·rw [popC_nil] at h; cases h; simp; omega
 ·rw [popC_snoc] at h; cases h; simp; omega
theorem one_lit {op n nx : Int} {c : List II} {d r : List Int} {nd hd nr hr fl tg br : Int}  (hop : op = 1 ∨ op = 2)  : oneB op n nx ⟨c, d, r, nd, hd, nr, hr, fl, tg, br⟩ = ⟨c ++ [(0, (c.length : Int), 0, 0, n)], d ++ [(c.length : Int)], r, nd, hd, nr, hr, fl, tg, br⟩ := by
 unfold oneB
 rw [if_pos (by omega)]
 simp [pushD, addW, newV]
theorem one_dup {op n nx : Int} {c : List II} {d r : List Int} {nd hd nr hr fl tg br : Int} {c1 : List II} {d1 : List Int} {m1 n1 : Int} (hop : op = 3) (h : popC 1 c d nd = (c1, d1, m1, n1)) : oneB op n nx ⟨c, d, r, nd, hd, nr, hr, fl, tg, br⟩ = ⟨c1, d1 ++ [n1, n1], r, m1, hd, nr, hr, fl, tg, br⟩ := by
 unfold oneB
 rw [if_neg (by omega), if_pos (by omega)]
 simp [pushD, popD, h]
theorem one_drop {op n nx : Int} {c : List II} {d r : List Int} {nd hd nr hr fl tg br : Int} {c1 : List II} {d1 : List Int} {m1 n1 : Int} (hop : op = 4) (h : popC 1 c d nd = (c1, d1, m1, n1)) : oneB op n nx ⟨c, d, r, nd, hd, nr, hr, fl, tg, br⟩ = ⟨c1, d1, r, m1, hd, nr, hr, fl, tg, br⟩ := by
 unfold oneB
 rw [if_neg (by omega), if_neg (by omega), if_pos (by omega)]
 simp [popD, h]
theorem one_swap {op n nx : Int} {c : List II} {d r : List Int} {nd hd nr hr fl tg br : Int} {c1 c2 : List II} {d1 d2 : List Int} {m1 n1 m2 n2 : Int} (hop : op = 5) (h : popC 1 c d nd = (c1, d1, m1, n1)) (h2 : popC 1 c1 d1 m1 = (c2, d2, m2, n2)) : oneB op n nx ⟨c, d, r, nd, hd, nr, hr, fl, tg, br⟩ = ⟨c2, d2 ++ [n1, n2], r, m2, hd, nr, hr, fl, tg, br⟩ := by
 unfold oneB
 rw [if_neg (by omega), if_neg (by omega), if_neg (by omega), if_pos (by omega)]
 simp [pushD, popD, h, h2]
theorem one_over {op n nx : Int} {c : List II} {d r : List Int} {nd hd nr hr fl tg br : Int} {c1 c2 : List II} {d1 d2 : List Int} {m1 n1 m2 n2 : Int} (hop : op = 6) (h : popC 1 c d nd = (c1, d1, m1, n1)) (h2 : popC 1 c1 d1 m1 = (c2, d2, m2, n2)) : oneB op n nx ⟨c, d, r, nd, hd, nr, hr, fl, tg, br⟩ = ⟨c2, d2 ++ [n2, n1, n2], r, m2, hd, nr, hr, fl, tg, br⟩ := by
 unfold oneB
 rw [if_neg (by omega), if_neg (by omega), if_neg (by omega), if_neg (by omega), if_pos (by omega)]
 simp [pushD, popD, h, h2]
theorem one_tor {op n nx : Int} {c : List II} {d r : List Int} {nd hd nr hr fl tg br : Int} {c1 : List II} {d1 : List Int} {m1 n1 : Int} (hop : op = 7) (h : popC 1 c d nd = (c1, d1, m1, n1)) : oneB op n nx ⟨c, d, r, nd, hd, nr, hr, fl, tg, br⟩ = ⟨c1, d1, r ++ [n1], m1, hd, nr, hr, fl, tg, br⟩ := by
 unfold oneB
 rw [if_neg (by omega), if_neg (by omega), if_neg (by omega), if_neg (by omega), if_neg (by omega), if_pos (by omega)]
 simp [pushR, popD, h]
theorem one_fromr {op n nx : Int} {c : List II} {d r : List Int} {nd hd nr hr fl tg br : Int} {c1 : List II} {d1 : List Int} {m1 n1 : Int} (hop : op = 8) (h : popC 2 c r nr = (c1, d1, m1, n1)) : oneB op n nx ⟨c, d, r, nd, hd, nr, hr, fl, tg, br⟩ = ⟨c1, d ++ [n1], d1, nd, hd, m1, hr, fl, tg, br⟩ := by
 unfold oneB
 rw [if_neg (by omega), if_neg (by omega), if_neg (by omega), if_neg (by omega), if_neg (by omega), if_neg (by omega), if_pos (by omega)]
 simp [pushD, popR, h]
theorem one_alu {op n nx : Int} {c : List II} {d r : List Int} {nd hd nr hr fl tg br : Int} {c1 c2 : List II} {d1 d2 : List Int} {m1 n1 m2 n2 : Int} (hop : 16 ≤ op ∧ op ≤ 23) (h : popC 1 c d nd = (c1, d1, m1, n1)) (h2 : popC 1 c1 d1 m1 = (c2, d2, m2, n2)) : oneB op n nx ⟨c, d, r, nd, hd, nr, hr, fl, tg, br⟩ = ⟨(c2 ++ [(4, (c2.length : Int), n2, n1, op)]) ++ [(3, ((c2 ++ [(4, (c2.length : Int), n2, n1, op)]).length : Int), n2, n1, op)], d2 ++ [((c2 ++ [(4, (c2.length : Int), n2, n1, op)]).length : Int)], r, m2, hd, nr, hr, (c2.length : Int), tg, br⟩ := by
 unfold oneB
 rw [if_neg (by omega), if_neg (by omega), if_neg (by omega), if_neg (by omega), if_neg (by omega), if_neg (by omega), if_neg (by omega), if_pos (by omega)]
 have h25 : ¬ op = 25 := by omega
 simp [popD, addW, newV, pushD, h, h2, h25]
theorem one_cmp {op n nx : Int} {c : List II} {d r : List Int} {nd hd nr hr fl tg br : Int} {c1 c2 : List II} {d1 d2 : List Int} {m1 n1 m2 n2 : Int} (hop : op = 25) (h : popC 1 c d nd = (c1, d1, m1, n1)) (h2 : popC 1 c1 d1 m1 = (c2, d2, m2, n2)) : oneB op n nx ⟨c, d, r, nd, hd, nr, hr, fl, tg, br⟩ = ⟨c2 ++ [(4, (c2.length : Int), n2, n1, op)], d2, r, m2, hd, nr, hr, (c2.length : Int), tg, br⟩ := by
 unfold oneB
 rw [if_neg (by omega), if_neg (by omega), if_neg (by omega), if_neg (by omega), if_neg (by omega), if_neg (by omega), if_neg (by omega), if_pos (by omega)]
 simp [popD, addW, newV, pushD, h, h2, hop]
theorem one_call {op n nx : Int} {c : List II} {d r : List Int} {nd hd nr hr fl tg br : Int}  (hop : op = 38)  : oneB op n nx ⟨c, d, r, nd, hd, nr, hr, fl, tg, br⟩ = ⟨c ++ [(0, (c.length : Int), 0, 0, nx)], d, r ++ [(c.length : Int)], nd, hd, nr, hr, fl, tg, br⟩ := by
 unfold oneB
 rw [if_neg (by omega), if_neg (by omega), if_neg (by omega), if_neg (by omega), if_neg (by omega), if_neg (by omega), if_neg (by omega), if_neg (by omega), if_pos (by omega)]
 simp [pushR, addW, newV]
theorem one_ret {op n nx : Int} {c : List II} {d r : List Int} {nd hd nr hr fl tg br : Int} {c1 : List II} {d1 : List Int} {m1 n1 : Int} (hop : op = 39) (h : popC 2 c r nr = (c1, d1, m1, n1)) : oneB op n nx ⟨c, d, r, nd, hd, nr, hr, fl, tg, br⟩ = ⟨c1, d, d1, nd, hd, m1, hr, fl, n1, br⟩ := by
 unfold oneB
 rw [if_neg (by omega), if_neg (by omega), if_neg (by omega), if_neg (by omega), if_neg (by omega), if_neg (by omega), if_neg (by omega), if_neg (by omega), if_neg (by omega), if_pos (by omega)]
 simp [popR, h]
theorem one_jmpi {op n nx : Int} {c : List II} {d r : List Int} {nd hd nr hr fl tg br : Int} {c1 : List II} {d1 : List Int} {m1 n1 : Int} (hop : op = 40) (h : popC 1 c d nd = (c1, d1, m1, n1)) : oneB op n nx ⟨c, d, r, nd, hd, nr, hr, fl, tg, br⟩ = ⟨c1, d1, r, m1, hd, nr, hr, fl, n1, br⟩ := by
 unfold oneB
 rw [if_neg (by omega), if_neg (by omega), if_neg (by omega), if_neg (by omega), if_neg (by omega), if_neg (by omega), if_neg (by omega), if_neg (by omega), if_neg (by omega), if_neg (by omega), if_pos (by omega)]
 simp [popD, h]
theorem one_jcc {op n nx : Int} {c : List II} {d r : List Int} {nd hd nr hr fl tg br : Int}  (hop : 33 ≤ op ∧ op ≤ 37)  : oneB op n nx ⟨c, d, r, nd, hd, nr, hr, fl, tg, br⟩ = ⟨c, d, r, nd, hd, nr, hr, fl, tg, op⟩ := by
 unfold oneB
 rw [if_neg (by omega), if_neg (by omega), if_neg (by omega), if_neg (by omega), if_neg (by omega), if_neg (by omega), if_neg (by omega), if_neg (by omega), if_neg (by omega), if_neg (by omega), if_neg (by omega), if_pos (by omega)]
theorem one_nop {op n nx : Int} {c : List II} {d r : List Int} {nd hd nr hr fl tg br : Int} (hop : op = 0 ∨ op = 32) : oneB op n nx ⟨c, d, r, nd, hd, nr, hr, fl, tg, br⟩ = ⟨c, d, r, nd, hd, nr, hr, fl, tg, br⟩ := by
 unfold oneB
 rw [if_neg (by omega), if_neg (by omega), if_neg (by omega), if_neg (by omega), if_neg (by omega), if_neg (by omega), if_neg (by omega), if_neg (by omega), if_neg (by omega), if_neg (by omega), if_neg (by omega), if_neg (by omega)]
theorem op_cases {op : Int} (h : plainB op = true) : op = 0 ∨ op = 1 ∨ op = 2 ∨ op = 3 ∨ op = 4 ∨ op = 5 ∨ op = 6 ∨ op = 7 ∨ op = 8 ∨ (16 ≤ op ∧ op ≤ 23) ∨ op = 25 ∨ op = 32 ∨ (33 ≤ op ∧ op ≤ 37) ∨ op = 38 ∨ op = 39 ∨ op = 40 := by
 unfold plainB at h; simp at h; omega
noncomputable def f59b : Code := Try.f59.body.getD .skip
theorem f59_body : Try.f59.body = some f59b := by kernel_rfl
theorem f59_fn : T20.fn 59 = some Try.f59 := by kernel_rfl
theorem topd_s {c : List II} {d jd r jr : List Int} {nd hd nr hr fl tg br ct : Int} (hcl : c.length < 100000) (hdl : d.length < 100000) (hrl : r.length < 100000) (hnd : 0 ≤ nd ∧ nd < 100000) (hnr : 0 ≤ nr ∧ nr < 100000) : SCall Try.prog T20 59 #[.pointer (some ⟨0, 14, none⟩)] (hq [some ⟨(lwL (s5 1 c.length) (s1 2 d.length) (s1 3 r.length) fl tg br ct nd hd nr hr), 64, false⟩, (iiCo c false), (inCo (d ++ jd) false), (inCo (r ++ jr) false)]) fun v h => v = .tuple #[] ∧ h = hq [some ⟨(lwL (s5 1 c.length) (s1 2 d.length) (s1 3 r.length) fl tg br ct nd (max hd ((d.length : Int) - nd)) nr hr), 64, false⟩, (iiCo c false), (inCo (d ++ jd) false), (inCo (r ++ jr) false)] := by
 refine scall_sd 20 _ 4 kr f59_fn f59_body rfl rfl rfl fun X hX => ?_
 refine sd_run 16 (sd_see 16 (.int .i64 ((d.length : Int) - nd)) (see_int (x := (IntKind.i64.wrap ((d.length : Int) - nd))) kr (w64 (by omega) (by omega) (by omega))) (sd_run 1 (sd_see 17 (.int .i64 (max hd ((d.length : Int) - nd))) (see_int (x := (if ((d.length : Int) - nd) > hd then ((d.length : Int) - nd) else hd)) kr (by split <;> omega)) (sd_run 4 ?_))))
 refine sdY (.tuple #[]) hX [some ⟨(lwL (s5 1 c.length) (s1 2 d.length) (s1 3 r.length) fl tg br ct nd (max hd ((d.length : Int) - nd)) nr hr), 64, false⟩, (iiCo c false), (inCo (d ++ jd) false), (inCo (r ++ jr) false)] i4_ ⟨brn, iiC_b, inC_b, inC_b, ⟨⟩⟩ ⟨rfl, rfl⟩
theorem topr_s {c : List II} {d jd r jr : List Int} {nd hd nr hr fl tg br ct : Int} (hcl : c.length < 100000) (hdl : d.length < 100000) (hrl : r.length < 100000) (hnd : 0 ≤ nd ∧ nd < 100000) (hnr : 0 ≤ nr ∧ nr < 100000) : SCall Try.prog T20 59 #[.pointer (some ⟨0, 18, none⟩)] (hq [some ⟨(lwL (s5 1 c.length) (s1 2 d.length) (s1 3 r.length) fl tg br ct nd hd nr hr), 64, false⟩, (iiCo c false), (inCo (d ++ jd) false), (inCo (r ++ jr) false)]) fun v h => v = .tuple #[] ∧ h = hq [some ⟨(lwL (s5 1 c.length) (s1 2 d.length) (s1 3 r.length) fl tg br ct nd hd nr (max hr ((r.length : Int) - nr))), 64, false⟩, (iiCo c false), (inCo (d ++ jd) false), (inCo (r ++ jr) false)] := by
 refine scall_sd 20 _ 4 kr f59_fn f59_body rfl rfl rfl fun X hX => ?_
 refine sd_run 16 (sd_see 16 (.int .i64 ((r.length : Int) - nr)) (see_int (x := (IntKind.i64.wrap ((r.length : Int) - nr))) kr (w64 (by omega) (by omega) (by omega))) (sd_run 1 (sd_see 17 (.int .i64 (max hr ((r.length : Int) - nr))) (see_int (x := (if ((r.length : Int) - nr) > hr then ((r.length : Int) - nr) else hr)) kr (by split <;> omega)) (sd_run 4 ?_))))
 refine sdY (.tuple #[]) hX [some ⟨(lwL (s5 1 c.length) (s1 2 d.length) (s1 3 r.length) fl tg br ct nd hd nr (max hr ((r.length : Int) - nr))), 64, false⟩, (iiCo c false), (inCo (d ++ jd) false), (inCo (r ++ jr) false)] i4_ ⟨brn, iiC_b, inC_b, inC_b, ⟨⟩⟩ ⟨rfl, rfl⟩
noncomputable def f29b : Code := Try.f29.body.getD .skip
theorem f29_body : Try.f29.body = some f29b := by kernel_rfl
theorem f29_fn : T20.fn 29 = some Try.f29 := by kernel_rfl
set_option maxHeartbeats 4000000 in
theorem one_s {c : List II} {d jd r jr : List Int} {nd hd nr hr fl tg br ct : Int} {op n nx : Int} (hcl : c.length < 1000) (hdl : d.length < 1000) (hrl : r.length < 1000) (hnd : 0 ≤ nd ∧ nd < 1000) (hnr : 0 ≤ nr ∧ nr < 1000) (hp : plainB op = true) : SCall Try.prog T20 29 #[.pointer (some ⟨0, 0, none⟩), .agg #[.int .i64 op, .int .u32 n], .int .u32 nx] (hq [some ⟨(lwL (s5 1 c.length) (s1 2 d.length) (s1 3 r.length) fl tg br ct nd hd nr hr), 64, false⟩, (iiCo c false), (inCo (d ++ jd) false), (inCo (r ++ jr) false)]) fun v h => ∃ (c1 : List II) (d1 j1 r1 k1 : List Int) (nd1 hd1 nr1 hr1 fl1 tg1 br1 : Int), oneP op n nx ⟨c, d, r, nd, hd, nr, hr, fl, tg, br⟩ = ⟨c1, d1, r1, nd1, hd1, nr1, hr1, fl1, tg1, br1⟩ ∧ v = .tuple #[] ∧ h = hq [some ⟨(lwL (s5 4 c1.length) (s1 5 d1.length) (s1 6 r1.length) fl1 tg1 br1 ct nd1 hd1 nr1 hr1), 64, false⟩, none, none, none, (iiCo c1 false), (inCo (d1 ++ j1) false), (inCo (r1 ++ k1) false)] := by
 rcases op_cases hp with hop | hop | hop | hop | hop | hop | hop | hop | hop | hop | hop | hop | hop | hop | hop | hop
 ·skip
  subst hop
  refine scall_sd 231 _ 4 kr f29_fn f29_body rfl rfl rfl fun X hX => ?_
  refine sd_run 140 (sdC 228 59 #[.pointer (some ⟨0, 14, none⟩)] (@topd_s c d jd r jr nd hd nr hr fl tg br ct (by first | omega | (simp; omega)) (by first | omega | (simp; omega)) (by first | omega | (simp; omega)) (by omega) (by omega)) i4_ ⟨brn, iiC_b, inC_b, inC_b, ⟨⟩⟩ ?_)
  rintro hn9 v9 k9 ⟨rfl, rfl⟩
  refine mkG (.tuple #[]) [some ⟨(lwL (s5 1 c.length) (s1 2 d.length) (s1 3 r.length) fl tg br ct nd (max hd ((d.length : Int) - nd)) nr hr), 64, false⟩, (iiCo c false), (inCo (d ++ jd) false), (inCo (r ++ jr) false), some ⟨[Value.int .i64 0, .int .u32 n], 30, false⟩] ⟨cvr 0, cvs 1 hn9, cvs 2 hn9, cvs 3 hn9, cvo, ⟨⟩⟩ ?_
  refine sd_run 4 (sdC 230 59 #[.pointer (some ⟨0, 18, none⟩)] (@topr_s c d jd r jr nd (max hd ((d.length : Int) - nd)) nr hr fl tg br ct (by first | omega | (simp; omega)) (by first | omega | (simp; omega)) (by first | omega | (simp; omega)) (by omega) (by omega)) i4_ ⟨brn, iiC_b, inC_b, inC_b, ⟨⟩⟩ ?_)
  rintro hn9 v9 k9 ⟨rfl, rfl⟩
  refine mkG (.tuple #[]) [some ⟨(lwL (s5 1 c.length) (s1 2 d.length) (s1 3 r.length) fl tg br ct nd (max hd ((d.length : Int) - nd)) nr (max hr ((r.length : Int) - nr))), 64, false⟩, (iiCo c false), (inCo (d ++ jd) false), (inCo (r ++ jr) false), some ⟨[Value.int .i64 0, .int .u32 n], 30, false⟩] ⟨cvr 0, cvs 1 hn9, cvs 2 hn9, cvs 3 hn9, cvo, ⟨⟩⟩ ?_
  refine sd_run 1 ?_
  refine sdY (.tuple #[]) hX [some ⟨(lwL (s5 4 c.length) (s1 5 d.length) (s1 6 r.length) fl tg br ct nd (max hd ((d.length : Int) - nd)) nr (max hr ((r.length : Int) - nr))), 64, false⟩, none, none, none, (iiCo c false), (inCo (d ++ jd) false), (inCo (r ++ jr) false)] [some 0, some 1, some 2, some 3, some 1, some 2, some 3] ⟨brn, iiC_b, inC_b, inC_b, ⟨⟩⟩ ⟨c, d, jd, r, jr, nd, (max hd ((d.length : Int) - nd)), nr, (max hr ((r.length : Int) - nr)), fl, tg, br, ((congrArg topW (one_nop (by omega) )).trans rfl), rfl, rfl⟩
 ·skip
  subst hop
  refine scall_sd 231 _ 4 kr f29_fn f29_body rfl rfl rfl fun X hX => ?_
  refine sd_run 38 (sd_drawQ [(4, 8)] kr kr ?_)
  refine sq_run 4 ?_
  refine sq_rd 35 (s1 2 d.length) (.pointer (some ⟨0, 14, none⟩)) 23 kr kr kr kr (veq_slice _ _ _) kr ?_
  refine sq_run 3 ?_
  refine sq_call 39 56 #[.pointer (some ⟨0, 0, none⟩), .int .u32 n] (@constant_s c d jd r jr nd hd nr hr fl tg br ct n (by first | omega | (simp; omega))) e4_ kr kr kr (hn_of 0 kr ⟨brn, iiC_b, inC_b, inC_b, ⟨⟩⟩) (rnG_sound rn2_sound _ _ kr) ?_
  rintro v9 k9 ⟨rfl, rfl⟩
  refine ⟨.int .i64 (c.length : Int), hq [some ⟨(lwL (s5 5 ((c ++ [((0 : Int), (c.length : Int), 0, 0, n)]).length)) (s1 2 d.length) (s1 3 r.length) fl tg br ct nd hd nr hr), 64, false⟩, none, (inCo (d ++ jd) false), (inCo (r ++ jr) false), some ⟨[Value.int .i64 1, .int .u32 n], 30, false⟩, (iiCo (c ++ [((0 : Int), (c.length : Int), 0, 0, n)]) false)], glue_of kr kr ⟨cvr 0, cov_same 2 (hn_of 0 kr ⟨brn, iiC_b, inC_b, inC_b, ⟨⟩⟩) kr kr kr kr kr, cov_same 3 (hn_of 0 kr ⟨brn, iiC_b, inC_b, inC_b, ⟨⟩⟩) kr kr kr kr kr, cvo, iiC_c 4, ⟨⟩⟩, rn2_sound _ _ kr, ⟨kr, kr, kr⟩, ?_⟩
  refine sq_run 1 ?_
  refine sq_growp 41 23 23 3 0 7 2 d.length 1 7 (.slice (some ⟨6, 0, none⟩) 1 1) (tab inC (d ++ jd)) [Value.int .i64 (c.length : Int)] (tab inC ((d ++ [(c.length : Int)]) ++ [])) kr kr kr kr kr (tab_le inC_len d jd rfl) kr kr (by decide) kr (by omega) kr (tab_partN inC_len d jd [(c.length : Int)] rfl rfl) kr ?_
  refine sq_see 41 (s1 7 ((d ++ [(c.length : Int)]).length)) (see_len (n := (d.length + 1)) kr (by simp)) ?_
  refine sq_run 3 ?_
  refine sq_end kr ?_
  refine sd_run 5 (sdC 228 59 #[.pointer (some ⟨0, 14, none⟩)] (@topd_s (c ++ [((0 : Int), (c.length : Int), 0, 0, n)]) (d ++ [(c.length : Int)]) [] r jr nd hd nr hr fl tg br ct (by first | omega | (simp; omega)) (by first | omega | (simp; omega)) (by first | omega | (simp; omega)) (by omega) (by omega)) [some 0, some 5, some 7, some 3] ⟨brn, iiC_b, inC_b, inC_b, ⟨⟩⟩ ?_)
  rintro hn9 v9 k9 ⟨rfl, rfl⟩
  refine mkG (.tuple #[]) [some ⟨(lwL (s5 5 ((c ++ [((0 : Int), (c.length : Int), 0, 0, n)]).length)) (s1 7 ((d ++ [(c.length : Int)]).length)) (s1 3 r.length) fl tg br ct nd (max hd (((d ++ [(c.length : Int)]).length : Int) - nd)) nr hr), 64, false⟩, none, none, (inCo (r ++ jr) false), some ⟨[Value.int .i64 1, .int .u32 n], 30, false⟩, (iiCo (c ++ [((0 : Int), (c.length : Int), 0, 0, n)]) false), some ⟨[Value.int .i64 (c.length : Int)], 3, false⟩, (inCo ((d ++ [(c.length : Int)]) ++ []) false)] ⟨cvr 0, cvs 3 hn9, cvo, cvs 1 hn9, cvo, cvs 2 hn9, ⟨⟩⟩ ?_
  refine sd_run 4 (sdC 230 59 #[.pointer (some ⟨0, 18, none⟩)] (@topr_s (c ++ [((0 : Int), (c.length : Int), 0, 0, n)]) (d ++ [(c.length : Int)]) [] r jr nd (max hd (((d ++ [(c.length : Int)]).length : Int) - nd)) nr hr fl tg br ct (by first | omega | (simp; omega)) (by first | omega | (simp; omega)) (by first | omega | (simp; omega)) (by omega) (by omega)) [some 0, some 5, some 7, some 3] ⟨brn, iiC_b, inC_b, inC_b, ⟨⟩⟩ ?_)
  rintro hn9 v9 k9 ⟨rfl, rfl⟩
  refine mkG (.tuple #[]) [some ⟨(lwL (s5 5 ((c ++ [((0 : Int), (c.length : Int), 0, 0, n)]).length)) (s1 7 ((d ++ [(c.length : Int)]).length)) (s1 3 r.length) fl tg br ct nd (max hd (((d ++ [(c.length : Int)]).length : Int) - nd)) nr (max hr ((r.length : Int) - nr))), 64, false⟩, none, none, (inCo (r ++ jr) false), some ⟨[Value.int .i64 1, .int .u32 n], 30, false⟩, (iiCo (c ++ [((0 : Int), (c.length : Int), 0, 0, n)]) false), some ⟨[Value.int .i64 (c.length : Int)], 3, false⟩, (inCo ((d ++ [(c.length : Int)]) ++ []) false)] ⟨cvr 0, cvs 3 hn9, cvo, cvs 1 hn9, cvo, cvs 2 hn9, ⟨⟩⟩ ?_
  refine sd_run 1 ?_
  refine sdY (.tuple #[]) hX [some ⟨(lwL (s5 4 ((c ++ [((0 : Int), (c.length : Int), 0, 0, n)]).length)) (s1 5 ((d ++ [(c.length : Int)]).length)) (s1 6 r.length) fl tg br ct nd (max hd (((d ++ [(c.length : Int)]).length : Int) - nd)) nr (max hr ((r.length : Int) - nr))), 64, false⟩, none, none, none, (iiCo (c ++ [((0 : Int), (c.length : Int), 0, 0, n)]) false), (inCo ((d ++ [(c.length : Int)]) ++ []) false), (inCo (r ++ jr) false)] [some 0, some 1, some 2, some 3, some 5, some 7, some 3] ⟨brn, iiC_b, inC_b, inC_b, ⟨⟩⟩ ⟨(c ++ [((0 : Int), (c.length : Int), 0, 0, n)]), (d ++ [(c.length : Int)]), [], r, jr, nd, (max hd (((d ++ [(c.length : Int)]).length : Int) - nd)), nr, (max hr ((r.length : Int) - nr)), fl, tg, br, ((congrArg topW (one_lit (by omega) )).trans rfl), rfl, rfl⟩
 ·skip
  subst hop
  refine scall_sd 231 _ 4 kr f29_fn f29_body rfl rfl rfl fun X hX => ?_
  refine sd_run 38 (sd_drawQ [(4, 8)] kr kr ?_)
  refine sq_run 4 ?_
  refine sq_rd 35 (s1 2 d.length) (.pointer (some ⟨0, 14, none⟩)) 23 kr kr kr kr (veq_slice _ _ _) kr ?_
  refine sq_run 3 ?_
  refine sq_call 39 56 #[.pointer (some ⟨0, 0, none⟩), .int .u32 n] (@constant_s c d jd r jr nd hd nr hr fl tg br ct n (by first | omega | (simp; omega))) e4_ kr kr kr (hn_of 0 kr ⟨brn, iiC_b, inC_b, inC_b, ⟨⟩⟩) (rnG_sound rn2_sound _ _ kr) ?_
  rintro v9 k9 ⟨rfl, rfl⟩
  refine ⟨.int .i64 (c.length : Int), hq [some ⟨(lwL (s5 5 ((c ++ [((0 : Int), (c.length : Int), 0, 0, n)]).length)) (s1 2 d.length) (s1 3 r.length) fl tg br ct nd hd nr hr), 64, false⟩, none, (inCo (d ++ jd) false), (inCo (r ++ jr) false), some ⟨[Value.int .i64 2, .int .u32 n], 30, false⟩, (iiCo (c ++ [((0 : Int), (c.length : Int), 0, 0, n)]) false)], glue_of kr kr ⟨cvr 0, cov_same 2 (hn_of 0 kr ⟨brn, iiC_b, inC_b, inC_b, ⟨⟩⟩) kr kr kr kr kr, cov_same 3 (hn_of 0 kr ⟨brn, iiC_b, inC_b, inC_b, ⟨⟩⟩) kr kr kr kr kr, cvo, iiC_c 4, ⟨⟩⟩, rn2_sound _ _ kr, ⟨kr, kr, kr⟩, ?_⟩
  refine sq_run 1 ?_
  refine sq_growp 41 23 23 3 0 7 2 d.length 1 7 (.slice (some ⟨6, 0, none⟩) 1 1) (tab inC (d ++ jd)) [Value.int .i64 (c.length : Int)] (tab inC ((d ++ [(c.length : Int)]) ++ [])) kr kr kr kr kr (tab_le inC_len d jd rfl) kr kr (by decide) kr (by omega) kr (tab_partN inC_len d jd [(c.length : Int)] rfl rfl) kr ?_
  refine sq_see 41 (s1 7 ((d ++ [(c.length : Int)]).length)) (see_len (n := (d.length + 1)) kr (by simp)) ?_
  refine sq_run 3 ?_
  refine sq_end kr ?_
  refine sd_run 5 (sdC 228 59 #[.pointer (some ⟨0, 14, none⟩)] (@topd_s (c ++ [((0 : Int), (c.length : Int), 0, 0, n)]) (d ++ [(c.length : Int)]) [] r jr nd hd nr hr fl tg br ct (by first | omega | (simp; omega)) (by first | omega | (simp; omega)) (by first | omega | (simp; omega)) (by omega) (by omega)) [some 0, some 5, some 7, some 3] ⟨brn, iiC_b, inC_b, inC_b, ⟨⟩⟩ ?_)
  rintro hn9 v9 k9 ⟨rfl, rfl⟩
  refine mkG (.tuple #[]) [some ⟨(lwL (s5 5 ((c ++ [((0 : Int), (c.length : Int), 0, 0, n)]).length)) (s1 7 ((d ++ [(c.length : Int)]).length)) (s1 3 r.length) fl tg br ct nd (max hd (((d ++ [(c.length : Int)]).length : Int) - nd)) nr hr), 64, false⟩, none, none, (inCo (r ++ jr) false), some ⟨[Value.int .i64 2, .int .u32 n], 30, false⟩, (iiCo (c ++ [((0 : Int), (c.length : Int), 0, 0, n)]) false), some ⟨[Value.int .i64 (c.length : Int)], 3, false⟩, (inCo ((d ++ [(c.length : Int)]) ++ []) false)] ⟨cvr 0, cvs 3 hn9, cvo, cvs 1 hn9, cvo, cvs 2 hn9, ⟨⟩⟩ ?_
  refine sd_run 4 (sdC 230 59 #[.pointer (some ⟨0, 18, none⟩)] (@topr_s (c ++ [((0 : Int), (c.length : Int), 0, 0, n)]) (d ++ [(c.length : Int)]) [] r jr nd (max hd (((d ++ [(c.length : Int)]).length : Int) - nd)) nr hr fl tg br ct (by first | omega | (simp; omega)) (by first | omega | (simp; omega)) (by first | omega | (simp; omega)) (by omega) (by omega)) [some 0, some 5, some 7, some 3] ⟨brn, iiC_b, inC_b, inC_b, ⟨⟩⟩ ?_)
  rintro hn9 v9 k9 ⟨rfl, rfl⟩
  refine mkG (.tuple #[]) [some ⟨(lwL (s5 5 ((c ++ [((0 : Int), (c.length : Int), 0, 0, n)]).length)) (s1 7 ((d ++ [(c.length : Int)]).length)) (s1 3 r.length) fl tg br ct nd (max hd (((d ++ [(c.length : Int)]).length : Int) - nd)) nr (max hr ((r.length : Int) - nr))), 64, false⟩, none, none, (inCo (r ++ jr) false), some ⟨[Value.int .i64 2, .int .u32 n], 30, false⟩, (iiCo (c ++ [((0 : Int), (c.length : Int), 0, 0, n)]) false), some ⟨[Value.int .i64 (c.length : Int)], 3, false⟩, (inCo ((d ++ [(c.length : Int)]) ++ []) false)] ⟨cvr 0, cvs 3 hn9, cvo, cvs 1 hn9, cvo, cvs 2 hn9, ⟨⟩⟩ ?_
  refine sd_run 1 ?_
  refine sdY (.tuple #[]) hX [some ⟨(lwL (s5 4 ((c ++ [((0 : Int), (c.length : Int), 0, 0, n)]).length)) (s1 5 ((d ++ [(c.length : Int)]).length)) (s1 6 r.length) fl tg br ct nd (max hd (((d ++ [(c.length : Int)]).length : Int) - nd)) nr (max hr ((r.length : Int) - nr))), 64, false⟩, none, none, none, (iiCo (c ++ [((0 : Int), (c.length : Int), 0, 0, n)]) false), (inCo ((d ++ [(c.length : Int)]) ++ []) false), (inCo (r ++ jr) false)] [some 0, some 1, some 2, some 3, some 5, some 7, some 3] ⟨brn, iiC_b, inC_b, inC_b, ⟨⟩⟩ ⟨(c ++ [((0 : Int), (c.length : Int), 0, 0, n)]), (d ++ [(c.length : Int)]), [], r, jr, nd, (max hd (((d ++ [(c.length : Int)]).length : Int) - nd)), nr, (max hr ((r.length : Int) - nr)), fl, tg, br, ((congrArg topW (one_lit (by omega) )).trans rfl), rfl, rfl⟩
 ·skip
  subst hop
  refine scall_sd 231 _ 4 kr f29_fn f29_body rfl rfl rfl fun X hX => ?_
  refine sd_run 50 (sdC 49 57 #[.pointer (some ⟨0, 0, none⟩), .pointer (some ⟨0, 14, none⟩)] (@popd_s c d jd r jr nd hd nr hr fl tg br ct (by first | omega | (simp; omega)) (by first | omega | (simp; omega)) (by first | omega | (simp; omega)) (by omega) (by omega)) i4_ ⟨brn, iiC_b, inC_b, inC_b, ⟨⟩⟩ ?_)
  rintro hn9 v9 k9 ⟨c10_, d10_, j10_, m10_, n10_, q1_0, rfl, rfl⟩
  refine mkG (.int .i64 n10_) [some ⟨(lwL (s5 5 c10_.length) (s1 6 d10_.length) (s1 3 r.length) fl tg br ct m10_ hd nr hr), 64, false⟩, none, none, (inCo (r ++ jr) false), some ⟨[Value.int .i64 3, .int .u32 n], 30, false⟩, (iiCo c10_ false), (inCo (d10_ ++ j10_) false)] ⟨cvr 0, cvs 3 hn9, cvo, iiC_c 4, inC_c 5, ⟨⟩⟩ ?_
  obtain ⟨pa1, pb1, pc1, pd1⟩ := popC_len q1_0
  refine sd_run 12 (sd_growp 58 23 23 3 0 7 6 d10_.length 2 8 (.slice (some ⟨7, 0, none⟩) 2 2) (tab inC (d10_ ++ j10_)) [Value.int .i64 n10_, .int .i64 n10_] (tab inC ((d10_ ++ [n10_, n10_]) ++ [])) kr kr kr kr kr (tab_le inC_len d10_ j10_ rfl) kr kr (by decide) kr (by omega) kr (tab_partN inC_len d10_ j10_ [n10_, n10_] rfl rfl) (sd_see 58 (s1 8 ((d10_ ++ [n10_, n10_]).length)) (see_len (n := (d10_.length + 2)) kr (by simp)) (sd_run 9 (sdC 228 59 #[.pointer (some ⟨0, 14, none⟩)] (@topd_s c10_ (d10_ ++ [n10_, n10_]) [] r jr m10_ hd nr hr fl tg br ct (by first | omega | (simp; omega)) (by first | omega | (simp; omega)) (by first | omega | (simp; omega)) (by omega) (by omega)) [some 0, some 5, some 8, some 3] ⟨brn, iiC_b, inC_b, inC_b, ⟨⟩⟩ ?_))))
  rintro hn9 v9 k9 ⟨rfl, rfl⟩
  refine mkG (.tuple #[]) [some ⟨(lwL (s5 5 c10_.length) (s1 8 ((d10_ ++ [n10_, n10_]).length)) (s1 3 r.length) fl tg br ct m10_ (max hd (((d10_ ++ [n10_, n10_]).length : Int) - m10_)) nr hr), 64, false⟩, none, none, (inCo (r ++ jr) false), some ⟨[Value.int .i64 3, .int .u32 n], 30, false⟩, (iiCo c10_ false), none, some ⟨[Value.int .i64 n10_, .int .i64 n10_], 3, false⟩, (inCo ((d10_ ++ [n10_, n10_]) ++ []) false)] ⟨cvr 0, cvs 3 hn9, cvo, cvs 1 hn9, cvo, cvs 2 hn9, ⟨⟩⟩ ?_
  refine sd_run 4 (sdC 230 59 #[.pointer (some ⟨0, 18, none⟩)] (@topr_s c10_ (d10_ ++ [n10_, n10_]) [] r jr m10_ (max hd (((d10_ ++ [n10_, n10_]).length : Int) - m10_)) nr hr fl tg br ct (by first | omega | (simp; omega)) (by first | omega | (simp; omega)) (by first | omega | (simp; omega)) (by omega) (by omega)) [some 0, some 5, some 8, some 3] ⟨brn, iiC_b, inC_b, inC_b, ⟨⟩⟩ ?_)
  rintro hn9 v9 k9 ⟨rfl, rfl⟩
  refine mkG (.tuple #[]) [some ⟨(lwL (s5 5 c10_.length) (s1 8 ((d10_ ++ [n10_, n10_]).length)) (s1 3 r.length) fl tg br ct m10_ (max hd (((d10_ ++ [n10_, n10_]).length : Int) - m10_)) nr (max hr ((r.length : Int) - nr))), 64, false⟩, none, none, (inCo (r ++ jr) false), some ⟨[Value.int .i64 3, .int .u32 n], 30, false⟩, (iiCo c10_ false), none, some ⟨[Value.int .i64 n10_, .int .i64 n10_], 3, false⟩, (inCo ((d10_ ++ [n10_, n10_]) ++ []) false)] ⟨cvr 0, cvs 3 hn9, cvo, cvs 1 hn9, cvo, cvs 2 hn9, ⟨⟩⟩ ?_
  refine sd_run 1 ?_
  refine sdY (.tuple #[]) hX [some ⟨(lwL (s5 4 c10_.length) (s1 5 ((d10_ ++ [n10_, n10_]).length)) (s1 6 r.length) fl tg br ct m10_ (max hd (((d10_ ++ [n10_, n10_]).length : Int) - m10_)) nr (max hr ((r.length : Int) - nr))), 64, false⟩, none, none, none, (iiCo c10_ false), (inCo ((d10_ ++ [n10_, n10_]) ++ []) false), (inCo (r ++ jr) false)] [some 0, some 1, some 2, some 3, some 5, some 8, some 3] ⟨brn, iiC_b, inC_b, inC_b, ⟨⟩⟩ ⟨c10_, (d10_ ++ [n10_, n10_]), [], r, jr, m10_, (max hd (((d10_ ++ [n10_, n10_]).length : Int) - m10_)), nr, (max hr ((r.length : Int) - nr)), fl, tg, br, ((congrArg topW (one_dup rfl q1_0)).trans rfl), rfl, rfl⟩
 ·skip
  subst hop
  refine scall_sd 231 _ 4 kr f29_fn f29_body rfl rfl rfl fun X hX => ?_
  refine sd_run 57 (sdC 66 57 #[.pointer (some ⟨0, 0, none⟩), .pointer (some ⟨0, 14, none⟩)] (@popd_s c d jd r jr nd hd nr hr fl tg br ct (by first | omega | (simp; omega)) (by first | omega | (simp; omega)) (by first | omega | (simp; omega)) (by omega) (by omega)) i4_ ⟨brn, iiC_b, inC_b, inC_b, ⟨⟩⟩ ?_)
  rintro hn9 v9 k9 ⟨c11_, d11_, j11_, m11_, n11_, q2_0, rfl, rfl⟩
  refine mkG (.int .i64 n11_) [some ⟨(lwL (s5 5 c11_.length) (s1 6 d11_.length) (s1 3 r.length) fl tg br ct m11_ hd nr hr), 64, false⟩, none, none, (inCo (r ++ jr) false), some ⟨[Value.int .i64 4, .int .u32 n], 30, false⟩, (iiCo c11_ false), (inCo (d11_ ++ j11_) false)] ⟨cvr 0, cvs 3 hn9, cvo, iiC_c 4, inC_c 5, ⟨⟩⟩ ?_
  obtain ⟨pa2, pb2, pc2, pd2⟩ := popC_len q2_0
  refine sd_run 6 (sdC 228 59 #[.pointer (some ⟨0, 14, none⟩)] (@topd_s c11_ d11_ j11_ r jr m11_ hd nr hr fl tg br ct (by first | omega | (simp; omega)) (by first | omega | (simp; omega)) (by first | omega | (simp; omega)) (by omega) (by omega)) [some 0, some 5, some 6, some 3] ⟨brn, iiC_b, inC_b, inC_b, ⟨⟩⟩ ?_)
  rintro hn9 v9 k9 ⟨rfl, rfl⟩
  refine mkG (.tuple #[]) [some ⟨(lwL (s5 5 c11_.length) (s1 6 d11_.length) (s1 3 r.length) fl tg br ct m11_ (max hd ((d11_.length : Int) - m11_)) nr hr), 64, false⟩, none, none, (inCo (r ++ jr) false), some ⟨[Value.int .i64 4, .int .u32 n], 30, false⟩, (iiCo c11_ false), (inCo (d11_ ++ j11_) false)] ⟨cvr 0, cvs 3 hn9, cvo, cvs 1 hn9, cvs 2 hn9, ⟨⟩⟩ ?_
  refine sd_run 4 (sdC 230 59 #[.pointer (some ⟨0, 18, none⟩)] (@topr_s c11_ d11_ j11_ r jr m11_ (max hd ((d11_.length : Int) - m11_)) nr hr fl tg br ct (by first | omega | (simp; omega)) (by first | omega | (simp; omega)) (by first | omega | (simp; omega)) (by omega) (by omega)) [some 0, some 5, some 6, some 3] ⟨brn, iiC_b, inC_b, inC_b, ⟨⟩⟩ ?_)
  rintro hn9 v9 k9 ⟨rfl, rfl⟩
  refine mkG (.tuple #[]) [some ⟨(lwL (s5 5 c11_.length) (s1 6 d11_.length) (s1 3 r.length) fl tg br ct m11_ (max hd ((d11_.length : Int) - m11_)) nr (max hr ((r.length : Int) - nr))), 64, false⟩, none, none, (inCo (r ++ jr) false), some ⟨[Value.int .i64 4, .int .u32 n], 30, false⟩, (iiCo c11_ false), (inCo (d11_ ++ j11_) false)] ⟨cvr 0, cvs 3 hn9, cvo, cvs 1 hn9, cvs 2 hn9, ⟨⟩⟩ ?_
  refine sd_run 1 ?_
  refine sdY (.tuple #[]) hX [some ⟨(lwL (s5 4 c11_.length) (s1 5 d11_.length) (s1 6 r.length) fl tg br ct m11_ (max hd ((d11_.length : Int) - m11_)) nr (max hr ((r.length : Int) - nr))), 64, false⟩, none, none, none, (iiCo c11_ false), (inCo (d11_ ++ j11_) false), (inCo (r ++ jr) false)] [some 0, some 1, some 2, some 3, some 5, some 6, some 3] ⟨brn, iiC_b, inC_b, inC_b, ⟨⟩⟩ ⟨c11_, d11_, j11_, r, jr, m11_, (max hd ((d11_.length : Int) - m11_)), nr, (max hr ((r.length : Int) - nr)), fl, tg, br, ((congrArg topW (one_drop rfl q2_0)).trans rfl), rfl, rfl⟩
 ·skip
  subst hop
  refine scall_sd 231 _ 4 kr f29_fn f29_body rfl rfl rfl fun X hX => ?_
  refine sd_run 66 (sdC 72 57 #[.pointer (some ⟨0, 0, none⟩), .pointer (some ⟨0, 14, none⟩)] (@popd_s c d jd r jr nd hd nr hr fl tg br ct (by first | omega | (simp; omega)) (by first | omega | (simp; omega)) (by first | omega | (simp; omega)) (by omega) (by omega)) i4_ ⟨brn, iiC_b, inC_b, inC_b, ⟨⟩⟩ ?_)
  rintro hn9 v9 k9 ⟨c12_, d12_, j12_, m12_, n12_, q3_0, rfl, rfl⟩
  refine mkG (.int .i64 n12_) [some ⟨(lwL (s5 5 c12_.length) (s1 6 d12_.length) (s1 3 r.length) fl tg br ct m12_ hd nr hr), 64, false⟩, none, none, (inCo (r ++ jr) false), some ⟨[Value.int .i64 5, .int .u32 n], 30, false⟩, (iiCo c12_ false), (inCo (d12_ ++ j12_) false)] ⟨cvr 0, cvs 3 hn9, cvo, iiC_c 4, inC_c 5, ⟨⟩⟩ ?_
  obtain ⟨pa3, pb3, pc3, pd3⟩ := popC_len q3_0
  refine sd_run 7 (sdC 75 57 #[.pointer (some ⟨0, 0, none⟩), .pointer (some ⟨0, 14, none⟩)] (@popd_s c12_ d12_ j12_ r jr m12_ hd nr hr fl tg br ct (by first | omega | (simp; omega)) (by first | omega | (simp; omega)) (by first | omega | (simp; omega)) (by omega) (by omega)) [some 0, some 5, some 6, some 3] ⟨brn, iiC_b, inC_b, inC_b, ⟨⟩⟩ ?_)
  rintro hn9 v9 k9 ⟨c13_, d13_, j13_, m13_, n13_, q4_0, rfl, rfl⟩
  refine mkG (.int .i64 n13_) [some ⟨(lwL (s5 7 c13_.length) (s1 8 d13_.length) (s1 3 r.length) fl tg br ct m13_ hd nr hr), 64, false⟩, none, none, (inCo (r ++ jr) false), some ⟨[Value.int .i64 5, .int .u32 n], 30, false⟩, none, none, (iiCo c13_ false), (inCo (d13_ ++ j13_) false)] ⟨cvr 0, cvs 3 hn9, cvo, iiC_c 4, inC_c 5, ⟨⟩⟩ ?_
  obtain ⟨pa4, pb4, pc4, pd4⟩ := popC_len q4_0
  refine sd_run 12 (sd_growp 84 23 23 3 0 7 8 d13_.length 2 10 (.slice (some ⟨9, 0, none⟩) 2 2) (tab inC (d13_ ++ j13_)) [Value.int .i64 n12_, .int .i64 n13_] (tab inC ((d13_ ++ [n12_, n13_]) ++ [])) kr kr kr kr kr (tab_le inC_len d13_ j13_ rfl) kr kr (by decide) kr (by omega) kr (tab_partN inC_len d13_ j13_ [n12_, n13_] rfl rfl) (sd_see 84 (s1 10 ((d13_ ++ [n12_, n13_]).length)) (see_len (n := (d13_.length + 2)) kr (by simp)) (sd_run 9 (sdC 228 59 #[.pointer (some ⟨0, 14, none⟩)] (@topd_s c13_ (d13_ ++ [n12_, n13_]) [] r jr m13_ hd nr hr fl tg br ct (by first | omega | (simp; omega)) (by first | omega | (simp; omega)) (by first | omega | (simp; omega)) (by omega) (by omega)) [some 0, some 7, some 10, some 3] ⟨brn, iiC_b, inC_b, inC_b, ⟨⟩⟩ ?_))))
  rintro hn9 v9 k9 ⟨rfl, rfl⟩
  refine mkG (.tuple #[]) [some ⟨(lwL (s5 7 c13_.length) (s1 10 ((d13_ ++ [n12_, n13_]).length)) (s1 3 r.length) fl tg br ct m13_ (max hd (((d13_ ++ [n12_, n13_]).length : Int) - m13_)) nr hr), 64, false⟩, none, none, (inCo (r ++ jr) false), some ⟨[Value.int .i64 5, .int .u32 n], 30, false⟩, none, none, (iiCo c13_ false), none, some ⟨[Value.int .i64 n12_, .int .i64 n13_], 3, false⟩, (inCo ((d13_ ++ [n12_, n13_]) ++ []) false)] ⟨cvr 0, cvs 3 hn9, cvo, cvs 1 hn9, cvo, cvs 2 hn9, ⟨⟩⟩ ?_
  refine sd_run 4 (sdC 230 59 #[.pointer (some ⟨0, 18, none⟩)] (@topr_s c13_ (d13_ ++ [n12_, n13_]) [] r jr m13_ (max hd (((d13_ ++ [n12_, n13_]).length : Int) - m13_)) nr hr fl tg br ct (by first | omega | (simp; omega)) (by first | omega | (simp; omega)) (by first | omega | (simp; omega)) (by omega) (by omega)) [some 0, some 7, some 10, some 3] ⟨brn, iiC_b, inC_b, inC_b, ⟨⟩⟩ ?_)
  rintro hn9 v9 k9 ⟨rfl, rfl⟩
  refine mkG (.tuple #[]) [some ⟨(lwL (s5 7 c13_.length) (s1 10 ((d13_ ++ [n12_, n13_]).length)) (s1 3 r.length) fl tg br ct m13_ (max hd (((d13_ ++ [n12_, n13_]).length : Int) - m13_)) nr (max hr ((r.length : Int) - nr))), 64, false⟩, none, none, (inCo (r ++ jr) false), some ⟨[Value.int .i64 5, .int .u32 n], 30, false⟩, none, none, (iiCo c13_ false), none, some ⟨[Value.int .i64 n12_, .int .i64 n13_], 3, false⟩, (inCo ((d13_ ++ [n12_, n13_]) ++ []) false)] ⟨cvr 0, cvs 3 hn9, cvo, cvs 1 hn9, cvo, cvs 2 hn9, ⟨⟩⟩ ?_
  refine sd_run 1 ?_
  refine sdY (.tuple #[]) hX [some ⟨(lwL (s5 4 c13_.length) (s1 5 ((d13_ ++ [n12_, n13_]).length)) (s1 6 r.length) fl tg br ct m13_ (max hd (((d13_ ++ [n12_, n13_]).length : Int) - m13_)) nr (max hr ((r.length : Int) - nr))), 64, false⟩, none, none, none, (iiCo c13_ false), (inCo ((d13_ ++ [n12_, n13_]) ++ []) false), (inCo (r ++ jr) false)] [some 0, some 1, some 2, some 3, some 7, some 10, some 3] ⟨brn, iiC_b, inC_b, inC_b, ⟨⟩⟩ ⟨c13_, (d13_ ++ [n12_, n13_]), [], r, jr, m13_, (max hd (((d13_ ++ [n12_, n13_]).length : Int) - m13_)), nr, (max hr ((r.length : Int) - nr)), fl, tg, br, ((congrArg topW (one_swap rfl q3_0 q4_0)).trans rfl), rfl, rfl⟩
 ·skip
  subst hop
  refine scall_sd 231 _ 4 kr f29_fn f29_body rfl rfl rfl fun X hX => ?_
  refine sd_run 74 (sdC 92 57 #[.pointer (some ⟨0, 0, none⟩), .pointer (some ⟨0, 14, none⟩)] (@popd_s c d jd r jr nd hd nr hr fl tg br ct (by first | omega | (simp; omega)) (by first | omega | (simp; omega)) (by first | omega | (simp; omega)) (by omega) (by omega)) i4_ ⟨brn, iiC_b, inC_b, inC_b, ⟨⟩⟩ ?_)
  rintro hn9 v9 k9 ⟨c14_, d14_, j14_, m14_, n14_, q5_0, rfl, rfl⟩
  refine mkG (.int .i64 n14_) [some ⟨(lwL (s5 5 c14_.length) (s1 6 d14_.length) (s1 3 r.length) fl tg br ct m14_ hd nr hr), 64, false⟩, none, none, (inCo (r ++ jr) false), some ⟨[Value.int .i64 6, .int .u32 n], 30, false⟩, (iiCo c14_ false), (inCo (d14_ ++ j14_) false)] ⟨cvr 0, cvs 3 hn9, cvo, iiC_c 4, inC_c 5, ⟨⟩⟩ ?_
  obtain ⟨pa5, pb5, pc5, pd5⟩ := popC_len q5_0
  refine sd_run 7 (sdC 95 57 #[.pointer (some ⟨0, 0, none⟩), .pointer (some ⟨0, 14, none⟩)] (@popd_s c14_ d14_ j14_ r jr m14_ hd nr hr fl tg br ct (by first | omega | (simp; omega)) (by first | omega | (simp; omega)) (by first | omega | (simp; omega)) (by omega) (by omega)) [some 0, some 5, some 6, some 3] ⟨brn, iiC_b, inC_b, inC_b, ⟨⟩⟩ ?_)
  rintro hn9 v9 k9 ⟨c15_, d15_, j15_, m15_, n15_, q6_0, rfl, rfl⟩
  refine mkG (.int .i64 n15_) [some ⟨(lwL (s5 7 c15_.length) (s1 8 d15_.length) (s1 3 r.length) fl tg br ct m15_ hd nr hr), 64, false⟩, none, none, (inCo (r ++ jr) false), some ⟨[Value.int .i64 6, .int .u32 n], 30, false⟩, none, none, (iiCo c15_ false), (inCo (d15_ ++ j15_) false)] ⟨cvr 0, cvs 3 hn9, cvo, iiC_c 4, inC_c 5, ⟨⟩⟩ ?_
  obtain ⟨pa6, pb6, pc6, pd6⟩ := popC_len q6_0
  refine sd_run 13 (sd_growp 105 23 23 3 0 7 8 d15_.length 3 10 (.slice (some ⟨9, 0, none⟩) 3 3) (tab inC (d15_ ++ j15_)) [Value.int .i64 n15_, .int .i64 n14_, .int .i64 n15_] (tab inC ((d15_ ++ [n15_, n14_, n15_]) ++ [])) kr kr kr kr kr (tab_le inC_len d15_ j15_ rfl) kr kr (by decide) kr (by omega) kr (tab_partN inC_len d15_ j15_ [n15_, n14_, n15_] rfl rfl) (sd_see 105 (s1 10 ((d15_ ++ [n15_, n14_, n15_]).length)) (see_len (n := (d15_.length + 3)) kr (by simp)) (sd_run 9 (sdC 228 59 #[.pointer (some ⟨0, 14, none⟩)] (@topd_s c15_ (d15_ ++ [n15_, n14_, n15_]) [] r jr m15_ hd nr hr fl tg br ct (by first | omega | (simp; omega)) (by first | omega | (simp; omega)) (by first | omega | (simp; omega)) (by omega) (by omega)) [some 0, some 7, some 10, some 3] ⟨brn, iiC_b, inC_b, inC_b, ⟨⟩⟩ ?_))))
  rintro hn9 v9 k9 ⟨rfl, rfl⟩
  refine mkG (.tuple #[]) [some ⟨(lwL (s5 7 c15_.length) (s1 10 ((d15_ ++ [n15_, n14_, n15_]).length)) (s1 3 r.length) fl tg br ct m15_ (max hd (((d15_ ++ [n15_, n14_, n15_]).length : Int) - m15_)) nr hr), 64, false⟩, none, none, (inCo (r ++ jr) false), some ⟨[Value.int .i64 6, .int .u32 n], 30, false⟩, none, none, (iiCo c15_ false), none, some ⟨[Value.int .i64 n15_, .int .i64 n14_, .int .i64 n15_], 3, false⟩, (inCo ((d15_ ++ [n15_, n14_, n15_]) ++ []) false)] ⟨cvr 0, cvs 3 hn9, cvo, cvs 1 hn9, cvo, cvs 2 hn9, ⟨⟩⟩ ?_
  refine sd_run 4 (sdC 230 59 #[.pointer (some ⟨0, 18, none⟩)] (@topr_s c15_ (d15_ ++ [n15_, n14_, n15_]) [] r jr m15_ (max hd (((d15_ ++ [n15_, n14_, n15_]).length : Int) - m15_)) nr hr fl tg br ct (by first | omega | (simp; omega)) (by first | omega | (simp; omega)) (by first | omega | (simp; omega)) (by omega) (by omega)) [some 0, some 7, some 10, some 3] ⟨brn, iiC_b, inC_b, inC_b, ⟨⟩⟩ ?_)
  rintro hn9 v9 k9 ⟨rfl, rfl⟩
  refine mkG (.tuple #[]) [some ⟨(lwL (s5 7 c15_.length) (s1 10 ((d15_ ++ [n15_, n14_, n15_]).length)) (s1 3 r.length) fl tg br ct m15_ (max hd (((d15_ ++ [n15_, n14_, n15_]).length : Int) - m15_)) nr (max hr ((r.length : Int) - nr))), 64, false⟩, none, none, (inCo (r ++ jr) false), some ⟨[Value.int .i64 6, .int .u32 n], 30, false⟩, none, none, (iiCo c15_ false), none, some ⟨[Value.int .i64 n15_, .int .i64 n14_, .int .i64 n15_], 3, false⟩, (inCo ((d15_ ++ [n15_, n14_, n15_]) ++ []) false)] ⟨cvr 0, cvs 3 hn9, cvo, cvs 1 hn9, cvo, cvs 2 hn9, ⟨⟩⟩ ?_
  refine sd_run 1 ?_
  refine sdY (.tuple #[]) hX [some ⟨(lwL (s5 4 c15_.length) (s1 5 ((d15_ ++ [n15_, n14_, n15_]).length)) (s1 6 r.length) fl tg br ct m15_ (max hd (((d15_ ++ [n15_, n14_, n15_]).length : Int) - m15_)) nr (max hr ((r.length : Int) - nr))), 64, false⟩, none, none, none, (iiCo c15_ false), (inCo ((d15_ ++ [n15_, n14_, n15_]) ++ []) false), (inCo (r ++ jr) false)] [some 0, some 1, some 2, some 3, some 7, some 10, some 3] ⟨brn, iiC_b, inC_b, inC_b, ⟨⟩⟩ ⟨c15_, (d15_ ++ [n15_, n14_, n15_]), [], r, jr, m15_, (max hd (((d15_ ++ [n15_, n14_, n15_]).length : Int) - m15_)), nr, (max hr ((r.length : Int) - nr)), fl, tg, br, ((congrArg topW (one_over rfl q5_0 q6_0)).trans rfl), rfl, rfl⟩
 ·skip
  subst hop
  refine scall_sd 231 _ 4 kr f29_fn f29_body rfl rfl rfl fun X hX => ?_
  refine sd_run 78 (sd_drawQ [(4, 7)] kr kr ?_)
  refine sq_run 4 ?_
  refine sq_rd 115 (s1 3 r.length) (.pointer (some ⟨0, 18, none⟩)) 23 kr kr kr kr (veq_slice _ _ _) kr ?_
  refine sq_run 2 ?_
  refine sq_call 118 57 #[.pointer (some ⟨0, 0, none⟩), .pointer (some ⟨0, 14, none⟩)] (@popd_s c d jd r jr nd hd nr hr fl tg br ct (by first | omega | (simp; omega)) (by first | omega | (simp; omega)) (by first | omega | (simp; omega)) (by omega) (by omega)) e4_ kr kr kr (hn_of 0 kr ⟨brn, iiC_b, inC_b, inC_b, ⟨⟩⟩) (rnG_sound rn2_sound _ _ kr) ?_
  rintro v9 k9 ⟨c16_, d16_, j16_, m16_, n16_, q7_0, rfl, rfl⟩
  refine ⟨.int .i64 n16_, hq [some ⟨(lwL (s5 5 c16_.length) (s1 6 d16_.length) (s1 3 r.length) fl tg br ct m16_ hd nr hr), 64, false⟩, none, none, (inCo (r ++ jr) false), some ⟨[Value.int .i64 7, .int .u32 n], 30, false⟩, (iiCo c16_ false), (inCo (d16_ ++ j16_) false)], glue_of kr kr ⟨cvr 0, cov_same 3 (hn_of 0 kr ⟨brn, iiC_b, inC_b, inC_b, ⟨⟩⟩) kr kr kr kr kr, cvo, iiC_c 4, inC_c 5, ⟨⟩⟩, rn2_sound _ _ kr, ⟨kr, kr, kr⟩, ?_⟩
  obtain ⟨pa7, pb7, pc7, pd7⟩ := popC_len q7_0
  refine sq_run 1 ?_
  refine sq_growp 120 23 23 3 0 7 3 r.length 1 8 (.slice (some ⟨7, 0, none⟩) 1 1) (tab inC (r ++ jr)) [Value.int .i64 n16_] (tab inC ((r ++ [n16_]) ++ [])) kr kr kr kr kr (tab_le inC_len r jr rfl) kr kr (by decide) kr (by omega) kr (tab_partN inC_len r jr [n16_] rfl rfl) kr ?_
  refine sq_see 120 (s1 8 ((r ++ [n16_]).length)) (see_len (n := (r.length + 1)) kr (by simp)) ?_
  refine sq_run 3 ?_
  refine sq_end kr ?_
  refine sd_run 5 (sdC 228 59 #[.pointer (some ⟨0, 14, none⟩)] (@topd_s c16_ d16_ j16_ (r ++ [n16_]) [] m16_ hd nr hr fl tg br ct (by first | omega | (simp; omega)) (by first | omega | (simp; omega)) (by first | omega | (simp; omega)) (by omega) (by omega)) [some 0, some 5, some 6, some 8] ⟨brn, iiC_b, inC_b, inC_b, ⟨⟩⟩ ?_)
  rintro hn9 v9 k9 ⟨rfl, rfl⟩
  refine mkG (.tuple #[]) [some ⟨(lwL (s5 5 c16_.length) (s1 6 d16_.length) (s1 8 ((r ++ [n16_]).length)) fl tg br ct m16_ (max hd ((d16_.length : Int) - m16_)) nr hr), 64, false⟩, none, none, none, some ⟨[Value.int .i64 7, .int .u32 n], 30, false⟩, (iiCo c16_ false), (inCo (d16_ ++ j16_) false), some ⟨[Value.int .i64 n16_], 3, false⟩, (inCo ((r ++ [n16_]) ++ []) false)] ⟨cvr 0, cvo, cvs 1 hn9, cvs 2 hn9, cvo, cvs 3 hn9, ⟨⟩⟩ ?_
  refine sd_run 4 (sdC 230 59 #[.pointer (some ⟨0, 18, none⟩)] (@topr_s c16_ d16_ j16_ (r ++ [n16_]) [] m16_ (max hd ((d16_.length : Int) - m16_)) nr hr fl tg br ct (by first | omega | (simp; omega)) (by first | omega | (simp; omega)) (by first | omega | (simp; omega)) (by omega) (by omega)) [some 0, some 5, some 6, some 8] ⟨brn, iiC_b, inC_b, inC_b, ⟨⟩⟩ ?_)
  rintro hn9 v9 k9 ⟨rfl, rfl⟩
  refine mkG (.tuple #[]) [some ⟨(lwL (s5 5 c16_.length) (s1 6 d16_.length) (s1 8 ((r ++ [n16_]).length)) fl tg br ct m16_ (max hd ((d16_.length : Int) - m16_)) nr (max hr (((r ++ [n16_]).length : Int) - nr))), 64, false⟩, none, none, none, some ⟨[Value.int .i64 7, .int .u32 n], 30, false⟩, (iiCo c16_ false), (inCo (d16_ ++ j16_) false), some ⟨[Value.int .i64 n16_], 3, false⟩, (inCo ((r ++ [n16_]) ++ []) false)] ⟨cvr 0, cvo, cvs 1 hn9, cvs 2 hn9, cvo, cvs 3 hn9, ⟨⟩⟩ ?_
  refine sd_run 1 ?_
  refine sdY (.tuple #[]) hX [some ⟨(lwL (s5 4 c16_.length) (s1 5 d16_.length) (s1 6 ((r ++ [n16_]).length)) fl tg br ct m16_ (max hd ((d16_.length : Int) - m16_)) nr (max hr (((r ++ [n16_]).length : Int) - nr))), 64, false⟩, none, none, none, (iiCo c16_ false), (inCo (d16_ ++ j16_) false), (inCo ((r ++ [n16_]) ++ []) false)] [some 0, some 1, some 2, some 3, some 5, some 6, some 8] ⟨brn, iiC_b, inC_b, inC_b, ⟨⟩⟩ ⟨c16_, d16_, j16_, (r ++ [n16_]), [], m16_, (max hd ((d16_.length : Int) - m16_)), nr, (max hr (((r ++ [n16_]).length : Int) - nr)), fl, tg, br, ((congrArg topW (one_tor rfl q7_0)).trans rfl), rfl, rfl⟩
 ·skip
  subst hop
  refine scall_sd 231 _ 4 kr f29_fn f29_body rfl rfl rfl fun X hX => ?_
  refine sd_run 86 (sd_drawQ [(4, 7)] kr kr ?_)
  refine sq_run 4 ?_
  refine sq_rd 130 (s1 2 d.length) (.pointer (some ⟨0, 14, none⟩)) 23 kr kr kr kr (veq_slice _ _ _) kr ?_
  refine sq_run 2 ?_
  refine sq_call 133 57 #[.pointer (some ⟨0, 0, none⟩), .pointer (some ⟨0, 18, none⟩)] (@popr_s c d jd r jr nd hd nr hr fl tg br ct (by first | omega | (simp; omega)) (by first | omega | (simp; omega)) (by first | omega | (simp; omega)) (by omega) (by omega)) e4_ kr kr kr (hn_of 0 kr ⟨brn, iiC_b, inC_b, inC_b, ⟨⟩⟩) (rnG_sound rn2_sound _ _ kr) ?_
  rintro v9 k9 ⟨c17_, d17_, j17_, m17_, n17_, q8_0, rfl, rfl⟩
  refine ⟨.int .i64 n17_, hq [some ⟨(lwL (s5 5 c17_.length) (s1 2 d.length) (s1 6 d17_.length) fl tg br ct nd hd m17_ hr), 64, false⟩, none, (inCo (d ++ jd) false), none, some ⟨[Value.int .i64 8, .int .u32 n], 30, false⟩, (iiCo c17_ false), (inCo (d17_ ++ j17_) false)], glue_of kr kr ⟨cvr 0, cov_same 2 (hn_of 0 kr ⟨brn, iiC_b, inC_b, inC_b, ⟨⟩⟩) kr kr kr kr kr, cvo, iiC_c 4, inC_c 5, ⟨⟩⟩, rn2_sound _ _ kr, ⟨kr, kr, kr⟩, ?_⟩
  obtain ⟨pa8, pb8, pc8, pd8⟩ := popC_len q8_0
  refine sq_run 1 ?_
  refine sq_growp 135 23 23 3 0 7 2 d.length 1 8 (.slice (some ⟨7, 0, none⟩) 1 1) (tab inC (d ++ jd)) [Value.int .i64 n17_] (tab inC ((d ++ [n17_]) ++ [])) kr kr kr kr kr (tab_le inC_len d jd rfl) kr kr (by decide) kr (by omega) kr (tab_partN inC_len d jd [n17_] rfl rfl) kr ?_
  refine sq_see 135 (s1 8 ((d ++ [n17_]).length)) (see_len (n := (d.length + 1)) kr (by simp)) ?_
  refine sq_run 3 ?_
  refine sq_end kr ?_
  refine sd_run 5 (sdC 228 59 #[.pointer (some ⟨0, 14, none⟩)] (@topd_s c17_ (d ++ [n17_]) [] d17_ j17_ nd hd m17_ hr fl tg br ct (by first | omega | (simp; omega)) (by first | omega | (simp; omega)) (by first | omega | (simp; omega)) (by omega) (by omega)) [some 0, some 5, some 8, some 6] ⟨brn, iiC_b, inC_b, inC_b, ⟨⟩⟩ ?_)
  rintro hn9 v9 k9 ⟨rfl, rfl⟩
  refine mkG (.tuple #[]) [some ⟨(lwL (s5 5 c17_.length) (s1 8 ((d ++ [n17_]).length)) (s1 6 d17_.length) fl tg br ct nd (max hd (((d ++ [n17_]).length : Int) - nd)) m17_ hr), 64, false⟩, none, none, none, some ⟨[Value.int .i64 8, .int .u32 n], 30, false⟩, (iiCo c17_ false), (inCo (d17_ ++ j17_) false), some ⟨[Value.int .i64 n17_], 3, false⟩, (inCo ((d ++ [n17_]) ++ []) false)] ⟨cvr 0, cvo, cvs 1 hn9, cvs 3 hn9, cvo, cvs 2 hn9, ⟨⟩⟩ ?_
  refine sd_run 4 (sdC 230 59 #[.pointer (some ⟨0, 18, none⟩)] (@topr_s c17_ (d ++ [n17_]) [] d17_ j17_ nd (max hd (((d ++ [n17_]).length : Int) - nd)) m17_ hr fl tg br ct (by first | omega | (simp; omega)) (by first | omega | (simp; omega)) (by first | omega | (simp; omega)) (by omega) (by omega)) [some 0, some 5, some 8, some 6] ⟨brn, iiC_b, inC_b, inC_b, ⟨⟩⟩ ?_)
  rintro hn9 v9 k9 ⟨rfl, rfl⟩
  refine mkG (.tuple #[]) [some ⟨(lwL (s5 5 c17_.length) (s1 8 ((d ++ [n17_]).length)) (s1 6 d17_.length) fl tg br ct nd (max hd (((d ++ [n17_]).length : Int) - nd)) m17_ (max hr ((d17_.length : Int) - m17_))), 64, false⟩, none, none, none, some ⟨[Value.int .i64 8, .int .u32 n], 30, false⟩, (iiCo c17_ false), (inCo (d17_ ++ j17_) false), some ⟨[Value.int .i64 n17_], 3, false⟩, (inCo ((d ++ [n17_]) ++ []) false)] ⟨cvr 0, cvo, cvs 1 hn9, cvs 3 hn9, cvo, cvs 2 hn9, ⟨⟩⟩ ?_
  refine sd_run 1 ?_
  refine sdY (.tuple #[]) hX [some ⟨(lwL (s5 4 c17_.length) (s1 5 ((d ++ [n17_]).length)) (s1 6 d17_.length) fl tg br ct nd (max hd (((d ++ [n17_]).length : Int) - nd)) m17_ (max hr ((d17_.length : Int) - m17_))), 64, false⟩, none, none, none, (iiCo c17_ false), (inCo ((d ++ [n17_]) ++ []) false), (inCo (d17_ ++ j17_) false)] [some 0, some 1, some 2, some 3, some 5, some 8, some 6] ⟨brn, iiC_b, inC_b, inC_b, ⟨⟩⟩ ⟨c17_, (d ++ [n17_]), [], d17_, j17_, nd, (max hd (((d ++ [n17_]).length : Int) - nd)), m17_, (max hr ((d17_.length : Int) - m17_)), fl, tg, br, ((congrArg topW (one_fromr rfl q8_0)).trans rfl), rfl, rfl⟩
 ·skip
  refine scall_sd 231 _ 4 kr f29_fn f29_body rfl rfl rfl fun X hX => ?_
  refine sd_run 30 (sdN 26 (op : Int) 1 (by omega) kr (sd_run 3 (sdN 29 (op : Int) 2 (by omega) kr (sd_run 9 (sdN 46 (op : Int) 3 (by omega) kr (sd_run 8 (sdN 63 (op : Int) 4 (by omega) kr ?_)))))))
  refine sd_run 8 (sdN 69 (op : Int) 5 (by omega) kr (sd_run 8 (sdN 89 (op : Int) 6 (by omega) kr (sd_run 8 (sdN 110 (op : Int) 7 (by omega) kr (sd_run 8 (sdN 125 (op : Int) 8 (by omega) kr ?_)))))))
  refine sd_run 8 (sdT 140 ((op : Int) ≥ 16) (by omega) kr (sd_run 3 (sdT 143 ((op : Int) ≤ 25) (by omega) kr (sd_run 9 (sdC 147 57 #[.pointer (some ⟨0, 0, none⟩), .pointer (some ⟨0, 14, none⟩)] (@popd_s c d jd r jr nd hd nr hr fl tg br ct (by first | omega | (simp; omega)) (by first | omega | (simp; omega)) (by first | omega | (simp; omega)) (by omega) (by omega)) i4_ ⟨brn, iiC_b, inC_b, inC_b, ⟨⟩⟩ ?_)))))
  rintro hn9 v9 k9 ⟨c18_, d18_, j18_, m18_, n18_, q9_0, rfl, rfl⟩
  refine mkG (.int .i64 n18_) [some ⟨(lwL (s5 5 c18_.length) (s1 6 d18_.length) (s1 3 r.length) fl tg br ct m18_ hd nr hr), 64, false⟩, none, none, (inCo (r ++ jr) false), some ⟨[Value.int .i64 op, .int .u32 n], 30, false⟩, (iiCo c18_ false), (inCo (d18_ ++ j18_) false)] ⟨cvr 0, cvs 3 hn9, cvo, iiC_c 4, inC_c 5, ⟨⟩⟩ ?_
  obtain ⟨pa9, pb9, pc9, pd9⟩ := popC_len q9_0
  refine sd_run 7 (sdC 150 57 #[.pointer (some ⟨0, 0, none⟩), .pointer (some ⟨0, 14, none⟩)] (@popd_s c18_ d18_ j18_ r jr m18_ hd nr hr fl tg br ct (by first | omega | (simp; omega)) (by first | omega | (simp; omega)) (by first | omega | (simp; omega)) (by omega) (by omega)) [some 0, some 5, some 6, some 3] ⟨brn, iiC_b, inC_b, inC_b, ⟨⟩⟩ ?_)
  rintro hn9 v9 k9 ⟨c19_, d19_, j19_, m19_, n19_, q10_0, rfl, rfl⟩
  refine mkG (.int .i64 n19_) [some ⟨(lwL (s5 7 c19_.length) (s1 8 d19_.length) (s1 3 r.length) fl tg br ct m19_ hd nr hr), 64, false⟩, none, none, (inCo (r ++ jr) false), some ⟨[Value.int .i64 op, .int .u32 n], 30, false⟩, none, none, (iiCo c19_ false), (inCo (d19_ ++ j19_) false)] ⟨cvr 0, cvs 3 hn9, cvo, iiC_c 4, inC_c 5, ⟨⟩⟩ ?_
  obtain ⟨pa10, pb10, pc10, pd10⟩ := popC_len q10_0
  refine sd_run 11 (sd_see 156 (.int .u32 op) (see_int (x := (IntKind.u32.wrap op)) kr (wu32 rfl (by omega) (by omega))) (sd_run 1 (sdC 158 58 #[.pointer (some ⟨0, 0, none⟩), .agg #[.int .i64 4, .int .i64 0, .int .i64 n19_, .int .i64 n18_, .int .u32 op]] (@add_s c19_ d19_ j19_ r jr m19_ hd nr hr fl tg br ct 4 0 n19_ n18_ op (by first | omega | (simp; omega))) [some 0, some 7, some 8, some 3] ⟨brn, iiC_b, inC_b, inC_b, ⟨⟩⟩ ?_)))
  rintro hn9 v9 k9 ⟨rfl, rfl⟩
  refine mkG (.int .i64 (c19_.length : Int)) [some ⟨(lwL (s5 9 ((c19_ ++ [((4 : Int), (c19_.length : Int), n19_, n18_, op)]).length)) (s1 8 d19_.length) (s1 3 r.length) fl tg br ct m19_ hd nr hr), 64, false⟩, none, none, (inCo (r ++ jr) false), some ⟨[Value.int .i64 op, .int .u32 n], 30, false⟩, none, none, none, (inCo (d19_ ++ j19_) false), (iiCo (c19_ ++ [((4 : Int), (c19_.length : Int), n19_, n18_, op)]) false)] ⟨cvr 0, cvs 3 hn9, cvo, cvs 2 hn9, iiC_c 4, ⟨⟩⟩ ?_
  refine sd_run 10 (sdP 163 (op : Int) 25 (by omega) kr (sd_run 3 (sd_drawQ [(4, 11)] kr kr ?_)))
  refine sq_run 4 ?_
  refine sq_rd 168 (s1 8 d19_.length) (.pointer (some ⟨0, 14, none⟩)) 23 kr kr kr kr (veq_slice _ _ _) kr ?_
  refine sq_run 5 ?_
  refine sq_see 173 (.int .u32 op) (see_int (x := (IntKind.u32.wrap op)) kr (wu32 rfl (by omega) (by omega))) ?_
  refine sq_run 1 ?_
  refine sq_call 175 58 #[.pointer (some ⟨0, 0, none⟩), .agg #[.int .i64 3, .int .i64 0, .int .i64 n19_, .int .i64 n18_, .int .u32 op]] (@add_s (c19_ ++ [((4 : Int), (c19_.length : Int), n19_, n18_, op)]) d19_ j19_ r jr m19_ hd nr hr (c19_.length : Int) tg br ct 3 0 n19_ n18_ op (by first | omega | (simp; omega))) (emOf [some 0, some 9, some 8, some 3]) kr kr kr (hn_of 0 kr ⟨brn, iiC_b, inC_b, inC_b, ⟨⟩⟩) (rnG_sound rn2_sound _ _ kr) ?_
  rintro v9 k9 ⟨rfl, rfl⟩
  refine ⟨.int .i64 ((c19_ ++ [((4 : Int), (c19_.length : Int), n19_, n18_, op)]).length : Int), hq [some ⟨(lwL (s5 10 (((c19_ ++ [((4 : Int), (c19_.length : Int), n19_, n18_, op)]) ++ [((3 : Int), ((c19_ ++ [((4 : Int), (c19_.length : Int), n19_, n18_, op)]).length : Int), n19_, n18_, op)]).length)) (s1 8 d19_.length) (s1 3 r.length) (c19_.length : Int) tg br ct m19_ hd nr hr), 64, false⟩, none, none, (inCo (r ++ jr) false), some ⟨[Value.int .i64 op, .int .u32 n], 30, false⟩, none, none, none, (inCo (d19_ ++ j19_) false), none, (iiCo ((c19_ ++ [((4 : Int), (c19_.length : Int), n19_, n18_, op)]) ++ [((3 : Int), ((c19_ ++ [((4 : Int), (c19_.length : Int), n19_, n18_, op)]).length : Int), n19_, n18_, op)]) false)], glue_of kr kr ⟨cvr 0, cov_same 3 (hn_of 0 kr ⟨brn, iiC_b, inC_b, inC_b, ⟨⟩⟩) kr kr kr kr kr, cvo, cov_same 2 (hn_of 0 kr ⟨brn, iiC_b, inC_b, inC_b, ⟨⟩⟩) kr kr kr kr kr, iiC_c 4, ⟨⟩⟩, rn2_sound _ _ kr, ⟨kr, kr, kr⟩, ?_⟩
  refine sq_run 1 ?_
  refine sq_growp 177 23 23 3 0 7 8 d19_.length 1 12 (.slice (some ⟨11, 0, none⟩) 1 1) (tab inC (d19_ ++ j19_)) [Value.int .i64 ((c19_ ++ [((4 : Int), (c19_.length : Int), n19_, n18_, op)]).length : Int)] (tab inC ((d19_ ++ [((c19_ ++ [((4 : Int), (c19_.length : Int), n19_, n18_, op)]).length : Int)]) ++ [])) kr kr kr kr kr (tab_le inC_len d19_ j19_ rfl) kr kr (by decide) kr (by omega) kr (tab_partN inC_len d19_ j19_ [((c19_ ++ [((4 : Int), (c19_.length : Int), n19_, n18_, op)]).length : Int)] rfl rfl) kr ?_
  refine sq_see 177 (s1 12 ((d19_ ++ [((c19_ ++ [((4 : Int), (c19_.length : Int), n19_, n18_, op)]).length : Int)]).length)) (see_len (n := (d19_.length + 1)) kr (by simp)) ?_
  refine sq_run 3 ?_
  refine sq_end kr ?_
  refine sd_run 5 (sdC 228 59 #[.pointer (some ⟨0, 14, none⟩)] (@topd_s ((c19_ ++ [((4 : Int), (c19_.length : Int), n19_, n18_, op)]) ++ [((3 : Int), ((c19_ ++ [((4 : Int), (c19_.length : Int), n19_, n18_, op)]).length : Int), n19_, n18_, op)]) (d19_ ++ [((c19_ ++ [((4 : Int), (c19_.length : Int), n19_, n18_, op)]).length : Int)]) [] r jr m19_ hd nr hr (c19_.length : Int) tg br ct (by first | omega | (simp; omega)) (by first | omega | (simp; omega)) (by first | omega | (simp; omega)) (by omega) (by omega)) [some 0, some 10, some 12, some 3] ⟨brn, iiC_b, inC_b, inC_b, ⟨⟩⟩ ?_)
  rintro hn9 v9 k9 ⟨rfl, rfl⟩
  refine mkG (.tuple #[]) [some ⟨(lwL (s5 10 (((c19_ ++ [((4 : Int), (c19_.length : Int), n19_, n18_, op)]) ++ [((3 : Int), ((c19_ ++ [((4 : Int), (c19_.length : Int), n19_, n18_, op)]).length : Int), n19_, n18_, op)]).length)) (s1 12 ((d19_ ++ [((c19_ ++ [((4 : Int), (c19_.length : Int), n19_, n18_, op)]).length : Int)]).length)) (s1 3 r.length) (c19_.length : Int) tg br ct m19_ (max hd (((d19_ ++ [((c19_ ++ [((4 : Int), (c19_.length : Int), n19_, n18_, op)]).length : Int)]).length : Int) - m19_)) nr hr), 64, false⟩, none, none, (inCo (r ++ jr) false), some ⟨[Value.int .i64 op, .int .u32 n], 30, false⟩, none, none, none, none, none, (iiCo ((c19_ ++ [((4 : Int), (c19_.length : Int), n19_, n18_, op)]) ++ [((3 : Int), ((c19_ ++ [((4 : Int), (c19_.length : Int), n19_, n18_, op)]).length : Int), n19_, n18_, op)]) false), some ⟨[Value.int .i64 ((c19_ ++ [((4 : Int), (c19_.length : Int), n19_, n18_, op)]).length : Int)], 3, false⟩, (inCo ((d19_ ++ [((c19_ ++ [((4 : Int), (c19_.length : Int), n19_, n18_, op)]).length : Int)]) ++ []) false)] ⟨cvr 0, cvs 3 hn9, cvo, cvs 1 hn9, cvo, cvs 2 hn9, ⟨⟩⟩ ?_
  refine sd_run 4 (sdC 230 59 #[.pointer (some ⟨0, 18, none⟩)] (@topr_s ((c19_ ++ [((4 : Int), (c19_.length : Int), n19_, n18_, op)]) ++ [((3 : Int), ((c19_ ++ [((4 : Int), (c19_.length : Int), n19_, n18_, op)]).length : Int), n19_, n18_, op)]) (d19_ ++ [((c19_ ++ [((4 : Int), (c19_.length : Int), n19_, n18_, op)]).length : Int)]) [] r jr m19_ (max hd (((d19_ ++ [((c19_ ++ [((4 : Int), (c19_.length : Int), n19_, n18_, op)]).length : Int)]).length : Int) - m19_)) nr hr (c19_.length : Int) tg br ct (by first | omega | (simp; omega)) (by first | omega | (simp; omega)) (by first | omega | (simp; omega)) (by omega) (by omega)) [some 0, some 10, some 12, some 3] ⟨brn, iiC_b, inC_b, inC_b, ⟨⟩⟩ ?_)
  rintro hn9 v9 k9 ⟨rfl, rfl⟩
  refine mkG (.tuple #[]) [some ⟨(lwL (s5 10 (((c19_ ++ [((4 : Int), (c19_.length : Int), n19_, n18_, op)]) ++ [((3 : Int), ((c19_ ++ [((4 : Int), (c19_.length : Int), n19_, n18_, op)]).length : Int), n19_, n18_, op)]).length)) (s1 12 ((d19_ ++ [((c19_ ++ [((4 : Int), (c19_.length : Int), n19_, n18_, op)]).length : Int)]).length)) (s1 3 r.length) (c19_.length : Int) tg br ct m19_ (max hd (((d19_ ++ [((c19_ ++ [((4 : Int), (c19_.length : Int), n19_, n18_, op)]).length : Int)]).length : Int) - m19_)) nr (max hr ((r.length : Int) - nr))), 64, false⟩, none, none, (inCo (r ++ jr) false), some ⟨[Value.int .i64 op, .int .u32 n], 30, false⟩, none, none, none, none, none, (iiCo ((c19_ ++ [((4 : Int), (c19_.length : Int), n19_, n18_, op)]) ++ [((3 : Int), ((c19_ ++ [((4 : Int), (c19_.length : Int), n19_, n18_, op)]).length : Int), n19_, n18_, op)]) false), some ⟨[Value.int .i64 ((c19_ ++ [((4 : Int), (c19_.length : Int), n19_, n18_, op)]).length : Int)], 3, false⟩, (inCo ((d19_ ++ [((c19_ ++ [((4 : Int), (c19_.length : Int), n19_, n18_, op)]).length : Int)]) ++ []) false)] ⟨cvr 0, cvs 3 hn9, cvo, cvs 1 hn9, cvo, cvs 2 hn9, ⟨⟩⟩ ?_
  refine sd_run 1 ?_
  refine sdY (.tuple #[]) hX [some ⟨(lwL (s5 4 (((c19_ ++ [((4 : Int), (c19_.length : Int), n19_, n18_, op)]) ++ [((3 : Int), ((c19_ ++ [((4 : Int), (c19_.length : Int), n19_, n18_, op)]).length : Int), n19_, n18_, op)]).length)) (s1 5 ((d19_ ++ [((c19_ ++ [((4 : Int), (c19_.length : Int), n19_, n18_, op)]).length : Int)]).length)) (s1 6 r.length) (c19_.length : Int) tg br ct m19_ (max hd (((d19_ ++ [((c19_ ++ [((4 : Int), (c19_.length : Int), n19_, n18_, op)]).length : Int)]).length : Int) - m19_)) nr (max hr ((r.length : Int) - nr))), 64, false⟩, none, none, none, (iiCo ((c19_ ++ [((4 : Int), (c19_.length : Int), n19_, n18_, op)]) ++ [((3 : Int), ((c19_ ++ [((4 : Int), (c19_.length : Int), n19_, n18_, op)]).length : Int), n19_, n18_, op)]) false), (inCo ((d19_ ++ [((c19_ ++ [((4 : Int), (c19_.length : Int), n19_, n18_, op)]).length : Int)]) ++ []) false), (inCo (r ++ jr) false)] [some 0, some 1, some 2, some 3, some 10, some 12, some 3] ⟨brn, iiC_b, inC_b, inC_b, ⟨⟩⟩ ⟨((c19_ ++ [((4 : Int), (c19_.length : Int), n19_, n18_, op)]) ++ [((3 : Int), ((c19_ ++ [((4 : Int), (c19_.length : Int), n19_, n18_, op)]).length : Int), n19_, n18_, op)]), (d19_ ++ [((c19_ ++ [((4 : Int), (c19_.length : Int), n19_, n18_, op)]).length : Int)]), [], r, jr, m19_, (max hd (((d19_ ++ [((c19_ ++ [((4 : Int), (c19_.length : Int), n19_, n18_, op)]).length : Int)]).length : Int) - m19_)), nr, (max hr ((r.length : Int) - nr)), (c19_.length : Int), tg, br, ((congrArg topW (one_alu hop q9_0 q10_0)).trans rfl), rfl, rfl⟩
 ·skip
  subst hop
  refine scall_sd 231 _ 4 kr f29_fn f29_body rfl rfl rfl fun X hX => ?_
  refine sd_run 102 (sdC 147 57 #[.pointer (some ⟨0, 0, none⟩), .pointer (some ⟨0, 14, none⟩)] (@popd_s c d jd r jr nd hd nr hr fl tg br ct (by first | omega | (simp; omega)) (by first | omega | (simp; omega)) (by first | omega | (simp; omega)) (by omega) (by omega)) i4_ ⟨brn, iiC_b, inC_b, inC_b, ⟨⟩⟩ ?_)
  rintro hn9 v9 k9 ⟨c110_, d110_, j110_, m110_, n110_, q11_0, rfl, rfl⟩
  refine mkG (.int .i64 n110_) [some ⟨(lwL (s5 5 c110_.length) (s1 6 d110_.length) (s1 3 r.length) fl tg br ct m110_ hd nr hr), 64, false⟩, none, none, (inCo (r ++ jr) false), some ⟨[Value.int .i64 25, .int .u32 n], 30, false⟩, (iiCo c110_ false), (inCo (d110_ ++ j110_) false)] ⟨cvr 0, cvs 3 hn9, cvo, iiC_c 4, inC_c 5, ⟨⟩⟩ ?_
  obtain ⟨pa11, pb11, pc11, pd11⟩ := popC_len q11_0
  refine sd_run 7 (sdC 150 57 #[.pointer (some ⟨0, 0, none⟩), .pointer (some ⟨0, 14, none⟩)] (@popd_s c110_ d110_ j110_ r jr m110_ hd nr hr fl tg br ct (by first | omega | (simp; omega)) (by first | omega | (simp; omega)) (by first | omega | (simp; omega)) (by omega) (by omega)) [some 0, some 5, some 6, some 3] ⟨brn, iiC_b, inC_b, inC_b, ⟨⟩⟩ ?_)
  rintro hn9 v9 k9 ⟨c111_, d111_, j111_, m111_, n111_, q12_0, rfl, rfl⟩
  refine mkG (.int .i64 n111_) [some ⟨(lwL (s5 7 c111_.length) (s1 8 d111_.length) (s1 3 r.length) fl tg br ct m111_ hd nr hr), 64, false⟩, none, none, (inCo (r ++ jr) false), some ⟨[Value.int .i64 25, .int .u32 n], 30, false⟩, none, none, (iiCo c111_ false), (inCo (d111_ ++ j111_) false)] ⟨cvr 0, cvs 3 hn9, cvo, iiC_c 4, inC_c 5, ⟨⟩⟩ ?_
  obtain ⟨pa12, pb12, pc12, pd12⟩ := popC_len q12_0
  refine sd_run 12 (sdC 158 58 #[.pointer (some ⟨0, 0, none⟩), .agg #[.int .i64 4, .int .i64 0, .int .i64 n111_, .int .i64 n110_, .int .u32 25]] (@add_s c111_ d111_ j111_ r jr m111_ hd nr hr fl tg br ct 4 0 n111_ n110_ 25 (by first | omega | (simp; omega))) [some 0, some 7, some 8, some 3] ⟨brn, iiC_b, inC_b, inC_b, ⟨⟩⟩ ?_)
  rintro hn9 v9 k9 ⟨rfl, rfl⟩
  refine mkG (.int .i64 (c111_.length : Int)) [some ⟨(lwL (s5 9 ((c111_ ++ [((4 : Int), (c111_.length : Int), n111_, n110_, 25)]).length)) (s1 8 d111_.length) (s1 3 r.length) fl tg br ct m111_ hd nr hr), 64, false⟩, none, none, (inCo (r ++ jr) false), some ⟨[Value.int .i64 25, .int .u32 n], 30, false⟩, none, none, none, (inCo (d111_ ++ j111_) false), (iiCo (c111_ ++ [((4 : Int), (c111_.length : Int), n111_, n110_, 25)]) false)] ⟨cvr 0, cvs 3 hn9, cvo, cvs 2 hn9, iiC_c 4, ⟨⟩⟩ ?_
  refine sd_run 19 (sdC 228 59 #[.pointer (some ⟨0, 14, none⟩)] (@topd_s (c111_ ++ [((4 : Int), (c111_.length : Int), n111_, n110_, 25)]) d111_ j111_ r jr m111_ hd nr hr (c111_.length : Int) tg br ct (by first | omega | (simp; omega)) (by first | omega | (simp; omega)) (by first | omega | (simp; omega)) (by omega) (by omega)) [some 0, some 9, some 8, some 3] ⟨brn, iiC_b, inC_b, inC_b, ⟨⟩⟩ ?_)
  rintro hn9 v9 k9 ⟨rfl, rfl⟩
  refine mkG (.tuple #[]) [some ⟨(lwL (s5 9 ((c111_ ++ [((4 : Int), (c111_.length : Int), n111_, n110_, 25)]).length)) (s1 8 d111_.length) (s1 3 r.length) (c111_.length : Int) tg br ct m111_ (max hd ((d111_.length : Int) - m111_)) nr hr), 64, false⟩, none, none, (inCo (r ++ jr) false), some ⟨[Value.int .i64 25, .int .u32 n], 30, false⟩, none, none, none, (inCo (d111_ ++ j111_) false), (iiCo (c111_ ++ [((4 : Int), (c111_.length : Int), n111_, n110_, 25)]) false)] ⟨cvr 0, cvs 3 hn9, cvo, cvs 2 hn9, cvs 1 hn9, ⟨⟩⟩ ?_
  refine sd_run 4 (sdC 230 59 #[.pointer (some ⟨0, 18, none⟩)] (@topr_s (c111_ ++ [((4 : Int), (c111_.length : Int), n111_, n110_, 25)]) d111_ j111_ r jr m111_ (max hd ((d111_.length : Int) - m111_)) nr hr (c111_.length : Int) tg br ct (by first | omega | (simp; omega)) (by first | omega | (simp; omega)) (by first | omega | (simp; omega)) (by omega) (by omega)) [some 0, some 9, some 8, some 3] ⟨brn, iiC_b, inC_b, inC_b, ⟨⟩⟩ ?_)
  rintro hn9 v9 k9 ⟨rfl, rfl⟩
  refine mkG (.tuple #[]) [some ⟨(lwL (s5 9 ((c111_ ++ [((4 : Int), (c111_.length : Int), n111_, n110_, 25)]).length)) (s1 8 d111_.length) (s1 3 r.length) (c111_.length : Int) tg br ct m111_ (max hd ((d111_.length : Int) - m111_)) nr (max hr ((r.length : Int) - nr))), 64, false⟩, none, none, (inCo (r ++ jr) false), some ⟨[Value.int .i64 25, .int .u32 n], 30, false⟩, none, none, none, (inCo (d111_ ++ j111_) false), (iiCo (c111_ ++ [((4 : Int), (c111_.length : Int), n111_, n110_, 25)]) false)] ⟨cvr 0, cvs 3 hn9, cvo, cvs 2 hn9, cvs 1 hn9, ⟨⟩⟩ ?_
  refine sd_run 1 ?_
  refine sdY (.tuple #[]) hX [some ⟨(lwL (s5 4 ((c111_ ++ [((4 : Int), (c111_.length : Int), n111_, n110_, 25)]).length)) (s1 5 d111_.length) (s1 6 r.length) (c111_.length : Int) tg br ct m111_ (max hd ((d111_.length : Int) - m111_)) nr (max hr ((r.length : Int) - nr))), 64, false⟩, none, none, none, (iiCo (c111_ ++ [((4 : Int), (c111_.length : Int), n111_, n110_, 25)]) false), (inCo (d111_ ++ j111_) false), (inCo (r ++ jr) false)] [some 0, some 1, some 2, some 3, some 9, some 8, some 3] ⟨brn, iiC_b, inC_b, inC_b, ⟨⟩⟩ ⟨(c111_ ++ [((4 : Int), (c111_.length : Int), n111_, n110_, 25)]), d111_, j111_, r, jr, m111_, (max hd ((d111_.length : Int) - m111_)), nr, (max hr ((r.length : Int) - nr)), (c111_.length : Int), tg, br, ((congrArg topW (one_cmp rfl q11_0 q12_0)).trans rfl), rfl, rfl⟩
 ·skip
  subst hop
  refine scall_sd 231 _ 4 kr f29_fn f29_body rfl rfl rfl fun X hX => ?_
  refine sd_run 140 (sdC 228 59 #[.pointer (some ⟨0, 14, none⟩)] (@topd_s c d jd r jr nd hd nr hr fl tg br ct (by first | omega | (simp; omega)) (by first | omega | (simp; omega)) (by first | omega | (simp; omega)) (by omega) (by omega)) i4_ ⟨brn, iiC_b, inC_b, inC_b, ⟨⟩⟩ ?_)
  rintro hn9 v9 k9 ⟨rfl, rfl⟩
  refine mkG (.tuple #[]) [some ⟨(lwL (s5 1 c.length) (s1 2 d.length) (s1 3 r.length) fl tg br ct nd (max hd ((d.length : Int) - nd)) nr hr), 64, false⟩, (iiCo c false), (inCo (d ++ jd) false), (inCo (r ++ jr) false), some ⟨[Value.int .i64 32, .int .u32 n], 30, false⟩] ⟨cvr 0, cvs 1 hn9, cvs 2 hn9, cvs 3 hn9, cvo, ⟨⟩⟩ ?_
  refine sd_run 4 (sdC 230 59 #[.pointer (some ⟨0, 18, none⟩)] (@topr_s c d jd r jr nd (max hd ((d.length : Int) - nd)) nr hr fl tg br ct (by first | omega | (simp; omega)) (by first | omega | (simp; omega)) (by first | omega | (simp; omega)) (by omega) (by omega)) i4_ ⟨brn, iiC_b, inC_b, inC_b, ⟨⟩⟩ ?_)
  rintro hn9 v9 k9 ⟨rfl, rfl⟩
  refine mkG (.tuple #[]) [some ⟨(lwL (s5 1 c.length) (s1 2 d.length) (s1 3 r.length) fl tg br ct nd (max hd ((d.length : Int) - nd)) nr (max hr ((r.length : Int) - nr))), 64, false⟩, (iiCo c false), (inCo (d ++ jd) false), (inCo (r ++ jr) false), some ⟨[Value.int .i64 32, .int .u32 n], 30, false⟩] ⟨cvr 0, cvs 1 hn9, cvs 2 hn9, cvs 3 hn9, cvo, ⟨⟩⟩ ?_
  refine sd_run 1 ?_
  refine sdY (.tuple #[]) hX [some ⟨(lwL (s5 4 c.length) (s1 5 d.length) (s1 6 r.length) fl tg br ct nd (max hd ((d.length : Int) - nd)) nr (max hr ((r.length : Int) - nr))), 64, false⟩, none, none, none, (iiCo c false), (inCo (d ++ jd) false), (inCo (r ++ jr) false)] [some 0, some 1, some 2, some 3, some 1, some 2, some 3] ⟨brn, iiC_b, inC_b, inC_b, ⟨⟩⟩ ⟨c, d, jd, r, jr, nd, (max hd ((d.length : Int) - nd)), nr, (max hr ((r.length : Int) - nr)), fl, tg, br, ((congrArg topW (one_nop (by omega) )).trans rfl), rfl, rfl⟩
 ·skip
  refine scall_sd 231 _ 4 kr f29_fn f29_body rfl rfl rfl fun X hX => ?_
  refine sd_run 30 (sdN 26 (op : Int) 1 (by omega) kr (sd_run 3 (sdN 29 (op : Int) 2 (by omega) kr (sd_run 9 (sdN 46 (op : Int) 3 (by omega) kr (sd_run 8 (sdN 63 (op : Int) 4 (by omega) kr ?_)))))))
  refine sd_run 8 (sdN 69 (op : Int) 5 (by omega) kr (sd_run 8 (sdN 89 (op : Int) 6 (by omega) kr (sd_run 8 (sdN 110 (op : Int) 7 (by omega) kr (sd_run 8 (sdN 125 (op : Int) 8 (by omega) kr ?_)))))))
  refine sd_run 8 (sdT 140 ((op : Int) ≥ 16) (by omega) kr (sd_run 3 (sdF 143 ((op : Int) ≤ 25) (by omega) kr (sd_run 9 (sdN 182 (op : Int) 38 (by omega) kr (sd_run 8 (sdN 197 (op : Int) 39 (by omega) kr ?_)))))))
  refine sd_run 8 (sdN 207 (op : Int) 40 (by omega) kr (sd_run 8 (sdT 217 ((op : Int) ≥ 33) (by omega) kr (sd_run 3 (sdT 220 ((op : Int) ≤ 37) (by omega) kr (sd_run 18 (sdC 228 59 #[.pointer (some ⟨0, 14, none⟩)] (@topd_s c d jd r jr nd hd nr hr fl tg op ct (by first | omega | (simp; omega)) (by first | omega | (simp; omega)) (by first | omega | (simp; omega)) (by omega) (by omega)) i4_ ⟨brn, iiC_b, inC_b, inC_b, ⟨⟩⟩ ?_)))))))
  rintro hn9 v9 k9 ⟨rfl, rfl⟩
  refine mkG (.tuple #[]) [some ⟨(lwL (s5 1 c.length) (s1 2 d.length) (s1 3 r.length) fl tg op ct nd (max hd ((d.length : Int) - nd)) nr hr), 64, false⟩, (iiCo c false), (inCo (d ++ jd) false), (inCo (r ++ jr) false), some ⟨[Value.int .i64 op, .int .u32 n], 30, false⟩] ⟨cvr 0, cvs 1 hn9, cvs 2 hn9, cvs 3 hn9, cvo, ⟨⟩⟩ ?_
  refine sd_run 4 (sdC 230 59 #[.pointer (some ⟨0, 18, none⟩)] (@topr_s c d jd r jr nd (max hd ((d.length : Int) - nd)) nr hr fl tg op ct (by first | omega | (simp; omega)) (by first | omega | (simp; omega)) (by first | omega | (simp; omega)) (by omega) (by omega)) i4_ ⟨brn, iiC_b, inC_b, inC_b, ⟨⟩⟩ ?_)
  rintro hn9 v9 k9 ⟨rfl, rfl⟩
  refine mkG (.tuple #[]) [some ⟨(lwL (s5 1 c.length) (s1 2 d.length) (s1 3 r.length) fl tg op ct nd (max hd ((d.length : Int) - nd)) nr (max hr ((r.length : Int) - nr))), 64, false⟩, (iiCo c false), (inCo (d ++ jd) false), (inCo (r ++ jr) false), some ⟨[Value.int .i64 op, .int .u32 n], 30, false⟩] ⟨cvr 0, cvs 1 hn9, cvs 2 hn9, cvs 3 hn9, cvo, ⟨⟩⟩ ?_
  refine sd_run 1 ?_
  refine sdY (.tuple #[]) hX [some ⟨(lwL (s5 4 c.length) (s1 5 d.length) (s1 6 r.length) fl tg op ct nd (max hd ((d.length : Int) - nd)) nr (max hr ((r.length : Int) - nr))), 64, false⟩, none, none, none, (iiCo c false), (inCo (d ++ jd) false), (inCo (r ++ jr) false)] [some 0, some 1, some 2, some 3, some 1, some 2, some 3] ⟨brn, iiC_b, inC_b, inC_b, ⟨⟩⟩ ⟨c, d, jd, r, jr, nd, (max hd ((d.length : Int) - nd)), nr, (max hr ((r.length : Int) - nr)), fl, tg, op, ((congrArg topW (one_jcc hop )).trans rfl), rfl, rfl⟩
 ·skip
  subst hop
  refine scall_sd 231 _ 4 kr f29_fn f29_body rfl rfl rfl fun X hX => ?_
  refine sd_run 106 (sd_drawQ [(4, 7)] kr kr ?_)
  refine sq_run 4 ?_
  refine sq_rd 187 (s1 3 r.length) (.pointer (some ⟨0, 18, none⟩)) 23 kr kr kr kr (veq_slice _ _ _) kr ?_
  refine sq_run 2 ?_
  refine sq_call 190 56 #[.pointer (some ⟨0, 0, none⟩), .int .u32 nx] (@constant_s c d jd r jr nd hd nr hr fl tg br ct nx (by first | omega | (simp; omega))) e4_ kr kr kr (hn_of 0 kr ⟨brn, iiC_b, inC_b, inC_b, ⟨⟩⟩) (rnG_sound rn2_sound _ _ kr) ?_
  rintro v9 k9 ⟨rfl, rfl⟩
  refine ⟨.int .i64 (c.length : Int), hq [some ⟨(lwL (s5 5 ((c ++ [((0 : Int), (c.length : Int), 0, 0, nx)]).length)) (s1 2 d.length) (s1 3 r.length) fl tg br ct nd hd nr hr), 64, false⟩, none, (inCo (d ++ jd) false), (inCo (r ++ jr) false), some ⟨[Value.int .i64 38, .int .u32 n], 30, false⟩, (iiCo (c ++ [((0 : Int), (c.length : Int), 0, 0, nx)]) false)], glue_of kr kr ⟨cvr 0, cov_same 2 (hn_of 0 kr ⟨brn, iiC_b, inC_b, inC_b, ⟨⟩⟩) kr kr kr kr kr, cov_same 3 (hn_of 0 kr ⟨brn, iiC_b, inC_b, inC_b, ⟨⟩⟩) kr kr kr kr kr, cvo, iiC_c 4, ⟨⟩⟩, rn2_sound _ _ kr, ⟨kr, kr, kr⟩, ?_⟩
  refine sq_run 1 ?_
  refine sq_growp 192 23 23 3 0 7 3 r.length 1 7 (.slice (some ⟨6, 0, none⟩) 1 1) (tab inC (r ++ jr)) [Value.int .i64 (c.length : Int)] (tab inC ((r ++ [(c.length : Int)]) ++ [])) kr kr kr kr kr (tab_le inC_len r jr rfl) kr kr (by decide) kr (by omega) kr (tab_partN inC_len r jr [(c.length : Int)] rfl rfl) kr ?_
  refine sq_see 192 (s1 7 ((r ++ [(c.length : Int)]).length)) (see_len (n := (r.length + 1)) kr (by simp)) ?_
  refine sq_run 3 ?_
  refine sq_end kr ?_
  refine sd_run 5 (sdC 228 59 #[.pointer (some ⟨0, 14, none⟩)] (@topd_s (c ++ [((0 : Int), (c.length : Int), 0, 0, nx)]) d jd (r ++ [(c.length : Int)]) [] nd hd nr hr fl tg br ct (by first | omega | (simp; omega)) (by first | omega | (simp; omega)) (by first | omega | (simp; omega)) (by omega) (by omega)) [some 0, some 5, some 2, some 7] ⟨brn, iiC_b, inC_b, inC_b, ⟨⟩⟩ ?_)
  rintro hn9 v9 k9 ⟨rfl, rfl⟩
  refine mkG (.tuple #[]) [some ⟨(lwL (s5 5 ((c ++ [((0 : Int), (c.length : Int), 0, 0, nx)]).length)) (s1 2 d.length) (s1 7 ((r ++ [(c.length : Int)]).length)) fl tg br ct nd (max hd ((d.length : Int) - nd)) nr hr), 64, false⟩, none, (inCo (d ++ jd) false), none, some ⟨[Value.int .i64 38, .int .u32 n], 30, false⟩, (iiCo (c ++ [((0 : Int), (c.length : Int), 0, 0, nx)]) false), some ⟨[Value.int .i64 (c.length : Int)], 3, false⟩, (inCo ((r ++ [(c.length : Int)]) ++ []) false)] ⟨cvr 0, cvs 2 hn9, cvo, cvs 1 hn9, cvo, cvs 3 hn9, ⟨⟩⟩ ?_
  refine sd_run 4 (sdC 230 59 #[.pointer (some ⟨0, 18, none⟩)] (@topr_s (c ++ [((0 : Int), (c.length : Int), 0, 0, nx)]) d jd (r ++ [(c.length : Int)]) [] nd (max hd ((d.length : Int) - nd)) nr hr fl tg br ct (by first | omega | (simp; omega)) (by first | omega | (simp; omega)) (by first | omega | (simp; omega)) (by omega) (by omega)) [some 0, some 5, some 2, some 7] ⟨brn, iiC_b, inC_b, inC_b, ⟨⟩⟩ ?_)
  rintro hn9 v9 k9 ⟨rfl, rfl⟩
  refine mkG (.tuple #[]) [some ⟨(lwL (s5 5 ((c ++ [((0 : Int), (c.length : Int), 0, 0, nx)]).length)) (s1 2 d.length) (s1 7 ((r ++ [(c.length : Int)]).length)) fl tg br ct nd (max hd ((d.length : Int) - nd)) nr (max hr (((r ++ [(c.length : Int)]).length : Int) - nr))), 64, false⟩, none, (inCo (d ++ jd) false), none, some ⟨[Value.int .i64 38, .int .u32 n], 30, false⟩, (iiCo (c ++ [((0 : Int), (c.length : Int), 0, 0, nx)]) false), some ⟨[Value.int .i64 (c.length : Int)], 3, false⟩, (inCo ((r ++ [(c.length : Int)]) ++ []) false)] ⟨cvr 0, cvs 2 hn9, cvo, cvs 1 hn9, cvo, cvs 3 hn9, ⟨⟩⟩ ?_
  refine sd_run 1 ?_
  refine sdY (.tuple #[]) hX [some ⟨(lwL (s5 4 ((c ++ [((0 : Int), (c.length : Int), 0, 0, nx)]).length)) (s1 5 d.length) (s1 6 ((r ++ [(c.length : Int)]).length)) fl tg br ct nd (max hd ((d.length : Int) - nd)) nr (max hr (((r ++ [(c.length : Int)]).length : Int) - nr))), 64, false⟩, none, none, none, (iiCo (c ++ [((0 : Int), (c.length : Int), 0, 0, nx)]) false), (inCo (d ++ jd) false), (inCo ((r ++ [(c.length : Int)]) ++ []) false)] [some 0, some 1, some 2, some 3, some 5, some 2, some 7] ⟨brn, iiC_b, inC_b, inC_b, ⟨⟩⟩ ⟨(c ++ [((0 : Int), (c.length : Int), 0, 0, nx)]), d, jd, (r ++ [(c.length : Int)]), [], nd, (max hd ((d.length : Int) - nd)), nr, (max hr (((r ++ [(c.length : Int)]).length : Int) - nr)), fl, tg, br, ((congrArg topW (one_call rfl )).trans rfl), rfl, rfl⟩
 ·skip
  subst hop
  refine scall_sd 231 _ 4 kr f29_fn f29_body rfl rfl rfl fun X hX => ?_
  refine sd_run 118 (sdC 201 57 #[.pointer (some ⟨0, 0, none⟩), .pointer (some ⟨0, 18, none⟩)] (@popr_s c d jd r jr nd hd nr hr fl tg br ct (by first | omega | (simp; omega)) (by first | omega | (simp; omega)) (by first | omega | (simp; omega)) (by omega) (by omega)) i4_ ⟨brn, iiC_b, inC_b, inC_b, ⟨⟩⟩ ?_)
  rintro hn9 v9 k9 ⟨c112_, d112_, j112_, m112_, n112_, q13_0, rfl, rfl⟩
  refine mkG (.int .i64 n112_) [some ⟨(lwL (s5 5 c112_.length) (s1 2 d.length) (s1 6 d112_.length) fl tg br ct nd hd m112_ hr), 64, false⟩, none, (inCo (d ++ jd) false), none, some ⟨[Value.int .i64 39, .int .u32 n], 30, false⟩, (iiCo c112_ false), (inCo (d112_ ++ j112_) false)] ⟨cvr 0, cvs 2 hn9, cvo, iiC_c 4, inC_c 5, ⟨⟩⟩ ?_
  obtain ⟨pa13, pb13, pc13, pd13⟩ := popC_len q13_0
  refine sd_run 10 (sdC 228 59 #[.pointer (some ⟨0, 14, none⟩)] (@topd_s c112_ d jd d112_ j112_ nd hd m112_ hr fl n112_ br ct (by first | omega | (simp; omega)) (by first | omega | (simp; omega)) (by first | omega | (simp; omega)) (by omega) (by omega)) [some 0, some 5, some 2, some 6] ⟨brn, iiC_b, inC_b, inC_b, ⟨⟩⟩ ?_)
  rintro hn9 v9 k9 ⟨rfl, rfl⟩
  refine mkG (.tuple #[]) [some ⟨(lwL (s5 5 c112_.length) (s1 2 d.length) (s1 6 d112_.length) fl n112_ br ct nd (max hd ((d.length : Int) - nd)) m112_ hr), 64, false⟩, none, (inCo (d ++ jd) false), none, some ⟨[Value.int .i64 39, .int .u32 n], 30, false⟩, (iiCo c112_ false), (inCo (d112_ ++ j112_) false)] ⟨cvr 0, cvs 2 hn9, cvo, cvs 1 hn9, cvs 3 hn9, ⟨⟩⟩ ?_
  refine sd_run 4 (sdC 230 59 #[.pointer (some ⟨0, 18, none⟩)] (@topr_s c112_ d jd d112_ j112_ nd (max hd ((d.length : Int) - nd)) m112_ hr fl n112_ br ct (by first | omega | (simp; omega)) (by first | omega | (simp; omega)) (by first | omega | (simp; omega)) (by omega) (by omega)) [some 0, some 5, some 2, some 6] ⟨brn, iiC_b, inC_b, inC_b, ⟨⟩⟩ ?_)
  rintro hn9 v9 k9 ⟨rfl, rfl⟩
  refine mkG (.tuple #[]) [some ⟨(lwL (s5 5 c112_.length) (s1 2 d.length) (s1 6 d112_.length) fl n112_ br ct nd (max hd ((d.length : Int) - nd)) m112_ (max hr ((d112_.length : Int) - m112_))), 64, false⟩, none, (inCo (d ++ jd) false), none, some ⟨[Value.int .i64 39, .int .u32 n], 30, false⟩, (iiCo c112_ false), (inCo (d112_ ++ j112_) false)] ⟨cvr 0, cvs 2 hn9, cvo, cvs 1 hn9, cvs 3 hn9, ⟨⟩⟩ ?_
  refine sd_run 1 ?_
  refine sdY (.tuple #[]) hX [some ⟨(lwL (s5 4 c112_.length) (s1 5 d.length) (s1 6 d112_.length) fl n112_ br ct nd (max hd ((d.length : Int) - nd)) m112_ (max hr ((d112_.length : Int) - m112_))), 64, false⟩, none, none, none, (iiCo c112_ false), (inCo (d ++ jd) false), (inCo (d112_ ++ j112_) false)] [some 0, some 1, some 2, some 3, some 5, some 2, some 6] ⟨brn, iiC_b, inC_b, inC_b, ⟨⟩⟩ ⟨c112_, d, jd, d112_, j112_, nd, (max hd ((d.length : Int) - nd)), m112_, (max hr ((d112_.length : Int) - m112_)), fl, n112_, br, ((congrArg topW (one_ret rfl q13_0)).trans rfl), rfl, rfl⟩
 ·skip
  subst hop
  refine scall_sd 231 _ 4 kr f29_fn f29_body rfl rfl rfl fun X hX => ?_
  refine sd_run 126 (sdC 211 57 #[.pointer (some ⟨0, 0, none⟩), .pointer (some ⟨0, 14, none⟩)] (@popd_s c d jd r jr nd hd nr hr fl tg br ct (by first | omega | (simp; omega)) (by first | omega | (simp; omega)) (by first | omega | (simp; omega)) (by omega) (by omega)) i4_ ⟨brn, iiC_b, inC_b, inC_b, ⟨⟩⟩ ?_)
  rintro hn9 v9 k9 ⟨c113_, d113_, j113_, m113_, n113_, q14_0, rfl, rfl⟩
  refine mkG (.int .i64 n113_) [some ⟨(lwL (s5 5 c113_.length) (s1 6 d113_.length) (s1 3 r.length) fl tg br ct m113_ hd nr hr), 64, false⟩, none, none, (inCo (r ++ jr) false), some ⟨[Value.int .i64 40, .int .u32 n], 30, false⟩, (iiCo c113_ false), (inCo (d113_ ++ j113_) false)] ⟨cvr 0, cvs 3 hn9, cvo, iiC_c 4, inC_c 5, ⟨⟩⟩ ?_
  obtain ⟨pa14, pb14, pc14, pd14⟩ := popC_len q14_0
  refine sd_run 10 (sdC 228 59 #[.pointer (some ⟨0, 14, none⟩)] (@topd_s c113_ d113_ j113_ r jr m113_ hd nr hr fl n113_ br ct (by first | omega | (simp; omega)) (by first | omega | (simp; omega)) (by first | omega | (simp; omega)) (by omega) (by omega)) [some 0, some 5, some 6, some 3] ⟨brn, iiC_b, inC_b, inC_b, ⟨⟩⟩ ?_)
  rintro hn9 v9 k9 ⟨rfl, rfl⟩
  refine mkG (.tuple #[]) [some ⟨(lwL (s5 5 c113_.length) (s1 6 d113_.length) (s1 3 r.length) fl n113_ br ct m113_ (max hd ((d113_.length : Int) - m113_)) nr hr), 64, false⟩, none, none, (inCo (r ++ jr) false), some ⟨[Value.int .i64 40, .int .u32 n], 30, false⟩, (iiCo c113_ false), (inCo (d113_ ++ j113_) false)] ⟨cvr 0, cvs 3 hn9, cvo, cvs 1 hn9, cvs 2 hn9, ⟨⟩⟩ ?_
  refine sd_run 4 (sdC 230 59 #[.pointer (some ⟨0, 18, none⟩)] (@topr_s c113_ d113_ j113_ r jr m113_ (max hd ((d113_.length : Int) - m113_)) nr hr fl n113_ br ct (by first | omega | (simp; omega)) (by first | omega | (simp; omega)) (by first | omega | (simp; omega)) (by omega) (by omega)) [some 0, some 5, some 6, some 3] ⟨brn, iiC_b, inC_b, inC_b, ⟨⟩⟩ ?_)
  rintro hn9 v9 k9 ⟨rfl, rfl⟩
  refine mkG (.tuple #[]) [some ⟨(lwL (s5 5 c113_.length) (s1 6 d113_.length) (s1 3 r.length) fl n113_ br ct m113_ (max hd ((d113_.length : Int) - m113_)) nr (max hr ((r.length : Int) - nr))), 64, false⟩, none, none, (inCo (r ++ jr) false), some ⟨[Value.int .i64 40, .int .u32 n], 30, false⟩, (iiCo c113_ false), (inCo (d113_ ++ j113_) false)] ⟨cvr 0, cvs 3 hn9, cvo, cvs 1 hn9, cvs 2 hn9, ⟨⟩⟩ ?_
  refine sd_run 1 ?_
  refine sdY (.tuple #[]) hX [some ⟨(lwL (s5 4 c113_.length) (s1 5 d113_.length) (s1 6 r.length) fl n113_ br ct m113_ (max hd ((d113_.length : Int) - m113_)) nr (max hr ((r.length : Int) - nr))), 64, false⟩, none, none, none, (iiCo c113_ false), (inCo (d113_ ++ j113_) false), (inCo (r ++ jr) false)] [some 0, some 1, some 2, some 3, some 5, some 6, some 3] ⟨brn, iiC_b, inC_b, inC_b, ⟨⟩⟩ ⟨c113_, d113_, j113_, r, jr, m113_, (max hd ((d113_.length : Int) - m113_)), nr, (max hr ((r.length : Int) - nr)), fl, n113_, br, ((congrArg topW (one_jmpi rfl q14_0)).trans rfl), rfl, rfl⟩
end Ls
end Go.Proofs.Ytgpphhdndmdlgaa
