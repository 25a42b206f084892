/- Chapter 19: what an operation makes. -/
import Derived.Test.YtgpphhdndmdlgaaDoorKn
namespace Go.Proofs.YtgpphhdndmdlgaaDoor
open Go Go.Ev Go.RowKit
set_option linter.unusedVariables false
set_option linter.unusedSimpArgs false
set_option maxRecDepth 100000
namespace Ls
noncomputable def f28b : Code := Tryd.f28.body.getD .skip
theorem f28_body : Tryd.f28.body = some f28b := by kernel_rfl
theorem f28_fn : T20.fn 28 = some Tryd.f28 := by kernel_rfl
theorem get_s {V : List Int} {n vm : Nat} (hn : n < V.length) (hl : V.length < 1000) (hvm : vm = V.length) : SCall Tryd.prog T20 28 #[.int .i64 (n : Int), .pointer (some ⟨0, 0, none⟩)] (hq [some ⟨[Value.slice (some ⟨1, 0, none⟩) vm vm], 23, false⟩, (uCo V false)]) fun v h => v = .int .u32 (V.getD n 0) ∧ h = hq [some ⟨[Value.slice (some ⟨1, 0, none⟩) vm vm], 23, false⟩, (uCo V false)] := by
 refine scall_sd 8 _ 2 kr f28_fn f28_body rfl rfl rfl fun X hX => ?_
 refine sd_run 9 (sd_ix 6 (.pointer (some ⟨1, 0 + n * 1, none⟩)) n vm kr kr kr (by first | omega | (simp; done) | (simp; omega)) ?_)
 obtain ⟨a1, ha1⟩ : ∃ x_, (V)[n]? = some x_ := ⟨_, List.getElem?_eq_getElem (by omega)⟩
 refine sd_ld 7 (.int .u32 a1) 24 (.pointer (some ⟨1, 0 + n * 1, none⟩)) kr kr kr (ld_cell (l := V) (e := 24) (ro := false) (k := n) (j := 0) uC_len kr kr kr ha1 rfl) (sd_run 4 ?_)
 refine sdY (.int .u32 a1) hX [some ⟨[Value.slice (some ⟨1, 0, none⟩) vm vm], 23, false⟩, (uCo V false)] i2_ ⟨brn, uC_b, ⟨⟩⟩ ⟨(by rw [List.getD_eq_getElem?_getD, ha1]; rfl), rfl⟩
noncomputable def f29b : Code := Tryd.f29.body.getD .skip
theorem f29_body : Tryd.f29.body = some f29b := by kernel_rfl
theorem f29_fn : T20.fn 29 = some Tryd.f29 := by kernel_rfl
set_option maxHeartbeats 1000000 in
theorem make_s {o dst a b im : Int} {q : Sx} {d dj r rj V : List Int} {ro : Bool} {vm ka kb : Nat} (ho : o = 0 ∨ (o = 1 ∧ im < (d.length : Int)) ∨ (o = 2 ∧ im < (r.length : Int)) ∨ ((o = 3 ∨ o = 4) ∧ (0 ≤ a ∧ a < (V.length : Int)) ∧ (0 ≤ b ∧ b < (V.length : Int)))) (hi : 0 ≤ im ∧ im < 4294967296) (hV : V32 V) (hl : V.length < 1000) (hdl : d.length ≤ 16) (hrl : r.length ≤ 16) (hvm : vm = V.length) : SCall Tryd.prog T20 29 #[(c5A o dst a b im), (stq q q.pc (.slice (some ⟨0, 0, none⟩) d.length ka) (.slice (some ⟨1, 0, none⟩) r.length kb) q.fl q.cnt), .func (.func 28) #[] #[.pointer (some ⟨2, 0, none⟩)]] (hq [(uCo (d ++ dj) ro), (uCo (r ++ rj) ro), some ⟨[Value.slice (some ⟨3, 0, none⟩) vm vm], 23, false⟩, (uCo V false)]) fun v h => v = .int .u32 (mkV d r V (o, dst, a, b, im)) ∧ h = hq [(uCo (d ++ dj) ro), (uCo (r ++ rj) ro), some ⟨[Value.slice (some ⟨3, 0, none⟩) vm vm], 23, false⟩, (uCo V false)] := by
 rcases ho with ho0 | ⟨ho1, ho2⟩ | ⟨ho1, ho2⟩ | ⟨ho1 | ho1, ⟨ha1, ha2⟩, hb1, hb2⟩
 ·skip
  refine scall_sd 78 _ 4 kr f29_fn f29_body rfl rfl rfl fun X hX => ?_
  refine sd_run 23 (sdE 11 (o : Int) 0 (by omega) kr (sd_run 14 ?_))
  refine sdY (.int .u32 im) hX [(uCo (d ++ dj) ro), (uCo (r ++ rj) ro), some ⟨[Value.slice (some ⟨3, 0, none⟩) vm vm], 23, false⟩, (uCo V false)] i4_ ⟨uC_b, uC_b, brn, uC_b, ⟨⟩⟩ ⟨(by congr 1; unfold mkV; rw [if_pos ho0]), rfl⟩
 ·skip
  obtain ⟨A, hA⟩ := Int.eq_ofNat_of_zero_le hi.1
  refine scall_sd 78 _ 4 kr f29_fn f29_body rfl rfl rfl fun X hX => ?_
  refine sd_run 23 (sdN 11 (o : Int) 0 (by omega) kr (sd_run 7 (sdE 15 (o : Int) 1 (by omega) kr (sd_run 12 (sd_see 21 (.int .i64 ((d.length : Int) - 1)) (see_int (x := (IntKind.i64.wrap ((d.length : Int) - 1))) kr (i64w (by omega) (by omega) (by omega))) (sd_run 3 (sd_see 24 (.int .i64 im) (see_int (x := IntKind.i64.wrap im) kr (w64 rfl (by omega) (by omega))) ?_)))))))
  refine sd_run 1 (sd_see 25 (.int .i64 (((d.length - 1 - A) : Nat) : Int)) (see_int (x := (IntKind.i64.wrap (((d.length : Int) - 1) - im))) kr (i64w (by omega) (by omega) (by omega))) (sd_ix 26 (.pointer (some ⟨0, 0 + (d.length - 1 - A) * 1, none⟩)) (d.length - 1 - A) d.length kr kr kr (by first | omega | (simp; done) | (simp; omega)) ?_))
  obtain ⟨a1, ha1⟩ : ∃ x_, (d)[d.length - 1 - A]? = some x_ := ⟨_, List.getElem?_eq_getElem (by omega)⟩
  refine sd_ld 27 (.int .u32 a1) 24 (.pointer (some ⟨0, 0 + (d.length - 1 - A) * 1, none⟩)) kr kr kr (ld_cell (l := d ++ dj) (e := 24) (ro := ro) (k := d.length - 1 - A) (j := 0) uC_len kr kr kr (app_at ha1) rfl) (sd_run 6 ?_)
  refine sdY (.int .u32 a1) hX [(uCo (d ++ dj) ro), (uCo (r ++ rj) ro), some ⟨[Value.slice (some ⟨3, 0, none⟩) vm vm], 23, false⟩, (uCo V false)] i4_ ⟨uC_b, uC_b, brn, uC_b, ⟨⟩⟩ ⟨(by congr 1; unfold mkV argD; rw [if_neg (by omega), if_pos ho1, show im.toNat = A by omega, List.getD_eq_getElem?_getD, ha1]; rfl), rfl⟩
 ·skip
  obtain ⟨A, hA⟩ := Int.eq_ofNat_of_zero_le hi.1
  refine scall_sd 78 _ 4 kr f29_fn f29_body rfl rfl rfl fun X hX => ?_
  refine sd_run 23 (sdN 11 (o : Int) 0 (by omega) kr (sd_run 7 (sdN 15 (o : Int) 1 (by omega) kr (sd_run 7 (sdE 29 (o : Int) 2 (by omega) kr (sd_run 12 (sd_see 35 (.int .i64 ((r.length : Int) - 1)) (see_int (x := (IntKind.i64.wrap ((r.length : Int) - 1))) kr (i64w (by omega) (by omega) (by omega))) ?_)))))))
  refine sd_run 3 (sd_see 38 (.int .i64 im) (see_int (x := IntKind.i64.wrap im) kr (w64 rfl (by omega) (by omega))) (sd_run 1 (sd_see 39 (.int .i64 (((r.length - 1 - A) : Nat) : Int)) (see_int (x := (IntKind.i64.wrap (((r.length : Int) - 1) - im))) kr (i64w (by omega) (by omega) (by omega))) (sd_ix 40 (.pointer (some ⟨1, 0 + (r.length - 1 - A) * 1, none⟩)) (r.length - 1 - A) r.length kr kr kr (by first | omega | (simp; done) | (simp; omega)) ?_))))
  obtain ⟨a2, ha2⟩ : ∃ x_, (r)[r.length - 1 - A]? = some x_ := ⟨_, List.getElem?_eq_getElem (by omega)⟩
  refine sd_ld 41 (.int .u32 a2) 24 (.pointer (some ⟨1, 0 + (r.length - 1 - A) * 1, none⟩)) kr kr kr (ld_cell (l := r ++ rj) (e := 24) (ro := ro) (k := r.length - 1 - A) (j := 0) uC_len kr kr kr (app_at ha2) rfl) (sd_run 6 ?_)
  refine sdY (.int .u32 a2) hX [(uCo (d ++ dj) ro), (uCo (r ++ rj) ro), some ⟨[Value.slice (some ⟨3, 0, none⟩) vm vm], 23, false⟩, (uCo V false)] i4_ ⟨uC_b, uC_b, brn, uC_b, ⟨⟩⟩ ⟨(by congr 1; unfold mkV argD; rw [if_neg (by omega), if_neg (by omega), if_pos ho1, show im.toNat = A by omega, List.getD_eq_getElem?_getD, ha2]; rfl), rfl⟩
 ·skip
  obtain ⟨A, hA⟩ := Int.eq_ofNat_of_zero_le ha1
  obtain ⟨B, hB⟩ := Int.eq_ofNat_of_zero_le hb1
  refine scall_sd 78 _ 4 kr f29_fn f29_body rfl rfl rfl fun X hX => ?_
  refine sd_run 23 (sdN 11 (o : Int) 0 (by omega) kr (sd_run 7 (sdN 15 (o : Int) 1 (by omega) kr (sd_run 7 (sdN 29 (o : Int) 2 (by omega) kr (sd_run 7 (sdE 43 (o : Int) 3 (by omega) kr ?_)))))))
  refine sd_run 4 (sd_drawP kr ?_)
  refine svp_go 1 ?_
  refine svp_line ?_
  refine sv_rd 46 (.int .u32 im) 24 4 4 kr kr kr kr (veq_int _ _) kr ?_
  refine sv_run 1 ?_
  refine sv_see 47 (.int .i64 im) (see_int (x := IntKind.i64.wrap im) kr (w64 rfl (by omega) (by omega))) ?_
  refine sv_run 3 ?_
  refine sv_see 50 (.int .i64 (A : Int)) (see_int (x := a) kr hA) ?_
  refine sv_callp 51 28 #[.int .i64 (A : Int), .pointer (some ⟨2, 0, none⟩)] (@get_s V A vm (by omega) hl hvm) [some 2, some 3] kr kr kr (hn_of 0 kr ⟨brn, uC_b, ⟨⟩⟩) kr kr ?_
  rintro v9 k9 ⟨rfl, rfl⟩
  refine ⟨rfl, .int .u32 (V.getD A 0), kr, ?_⟩
  refine sv_run 2 ?_
  refine sv_rd 54 (.int .i64 b) 3 4 3 kr kr kr kr (veq_int _ _) kr ?_
  refine sv_see 54 (.int .i64 (B : Int)) (see_int (x := b) kr hB) ?_
  refine sv_callp 55 28 #[.int .i64 (B : Int), .pointer (some ⟨2, 0, none⟩)] (@get_s V B vm (by omega) hl hvm) [some 2, some 3] kr kr kr (hn_of 0 kr ⟨brn, uC_b, ⟨⟩⟩) kr kr ?_
  rintro v9 k9 ⟨rfl, rfl⟩
  refine ⟨rfl, .int .u32 (V.getD B 0), kr, ?_⟩
  refine sv_ask 56 (.tuple #[.int .u32 (doR im (V.getD A 0) (V.getD B 0)), .int .u32 (doF im (V.getD A 0) (V.getD B 0)), .bool (doK im (V.getD B 0))]) 52 #[.int .i64 im, .int .u32 (V.getD A 0), .int .u32 (V.getD B 0)] kr kr kr (orc52 im (V.getD A 0) (V.getD B 0) (u32B2 (hV.getD _) (hV.getD _))) ?_
  refine sv_run 5 ?_
  refine sv_end kr ?_
  refine sd_run 9 ?_
  refine sdY (.int .u32 (doR im (V.getD A 0) (V.getD B 0))) hX [(uCo (d ++ dj) ro), (uCo (r ++ rj) ro), some ⟨[Value.slice (some ⟨3, 0, none⟩) vm vm], 23, false⟩, (uCo V false)] i4_ ⟨uC_b, uC_b, brn, uC_b, ⟨⟩⟩ ⟨(by congr 1; unfold mkV; rw [if_neg (by omega), if_neg (by omega), if_neg (by omega), if_pos ho1, show a.toNat = A by omega, show b.toNat = B by omega]), rfl⟩
 ·skip
  obtain ⟨A, hA⟩ := Int.eq_ofNat_of_zero_le ha1
  obtain ⟨B, hB⟩ := Int.eq_ofNat_of_zero_le hb1
  refine scall_sd 78 _ 4 kr f29_fn f29_body rfl rfl rfl fun X hX => ?_
  refine sd_run 23 (sdN 11 (o : Int) 0 (by omega) kr (sd_run 7 (sdN 15 (o : Int) 1 (by omega) kr (sd_run 7 (sdN 29 (o : Int) 2 (by omega) kr (sd_run 7 (sdN 43 (o : Int) 3 (by omega) kr ?_)))))))
  refine sd_run 7 (sdE 61 (o : Int) 4 (by omega) kr (sd_run 4 (sd_drawP kr ?_)))
  refine svp_go 1 ?_
  refine svp_line ?_
  refine sv_rd 64 (.int .u32 im) 24 4 4 kr kr kr kr (veq_int _ _) kr ?_
  refine sv_run 1 ?_
  refine sv_see 65 (.int .i64 im) (see_int (x := IntKind.i64.wrap im) kr (w64 rfl (by omega) (by omega))) ?_
  refine sv_run 3 ?_
  refine sv_see 68 (.int .i64 (A : Int)) (see_int (x := a) kr hA) ?_
  refine sv_callp 69 28 #[.int .i64 (A : Int), .pointer (some ⟨2, 0, none⟩)] (@get_s V A vm (by omega) hl hvm) [some 2, some 3] kr kr kr (hn_of 0 kr ⟨brn, uC_b, ⟨⟩⟩) kr kr ?_
  rintro v9 k9 ⟨rfl, rfl⟩
  refine ⟨rfl, .int .u32 (V.getD A 0), kr, ?_⟩
  refine sv_run 2 ?_
  refine sv_rd 72 (.int .i64 b) 3 4 3 kr kr kr kr (veq_int _ _) kr ?_
  refine sv_see 72 (.int .i64 (B : Int)) (see_int (x := b) kr hB) ?_
  refine sv_callp 73 28 #[.int .i64 (B : Int), .pointer (some ⟨2, 0, none⟩)] (@get_s V B vm (by omega) hl hvm) [some 2, some 3] kr kr kr (hn_of 0 kr ⟨brn, uC_b, ⟨⟩⟩) kr kr ?_
  rintro v9 k9 ⟨rfl, rfl⟩
  refine ⟨rfl, .int .u32 (V.getD B 0), kr, ?_⟩
  refine sv_ask 74 (.tuple #[.int .u32 (doF im (V.getD A 0) (V.getD B 0)), .bool (doK im (V.getD B 0))]) 53 #[.int .i64 im, .int .u32 (V.getD A 0), .int .u32 (V.getD B 0)] kr kr kr (orc53 im (V.getD A 0) (V.getD B 0) (u32B2 (hV.getD _) (hV.getD _))) ?_
  refine sv_run 4 ?_
  refine sv_end kr ?_
  refine sd_run 9 ?_
  refine sdY (.int .u32 (doF im (V.getD A 0) (V.getD B 0))) hX [(uCo (d ++ dj) ro), (uCo (r ++ rj) ro), some ⟨[Value.slice (some ⟨3, 0, none⟩) vm vm], 23, false⟩, (uCo V false)] i4_ ⟨uC_b, uC_b, brn, uC_b, ⟨⟩⟩ ⟨(by congr 1; unfold mkV; rw [if_neg (by omega), if_neg (by omega), if_neg (by omega), if_neg (by omega), show a.toNat = A by omega, show b.toNat = B by omega]), rfl⟩
end Ls
end Go.Proofs.YtgpphhdndmdlgaaDoor
