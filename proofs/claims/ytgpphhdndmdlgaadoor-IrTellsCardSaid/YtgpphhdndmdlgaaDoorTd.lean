/- Chapter 19: the document: what fits, what a value is. -/
import Derived.Test.YtgpphhdndmdlgaaDoorTb
import Derived.Test.YtgpphhdndmdlgaaDoorKs
namespace Go.Proofs.YtgpphhdndmdlgaaDoor
open Go Go.Ev Go.RowKit
set_option linter.unusedVariables false
set_option linter.unusedSimpArgs false
set_option maxRecDepth 100000
namespace Ls
theorem rright_s {c : List II} {od rd : List Int} {nd nr hd hr fl nx tg br tk ct : Int} (hR : RightP c od rd nd nr hd hr fl tg br ct (c.length : Int)) (hol : od.length < 100000) (hrl : rd.length < 100000) (hi : ∀ x ∈ c, 0 ≤ x.2.2.2.2 ∧ x.2.2.2.2 < 4294967296) : SCall Tryd.prog T20 17 #[(pgV (s5 0 c.length) nd nr hd hr (s1 1 od.length) (s1 2 rd.length) fl nx tg br tk ct (c.length : Int))] (hq [(iiCo c false), (inCo od false), (inCo rd false)]) fun v h => v = .bool true ∧ h = hq [(iiCo c false), (inCo od false), (inCo rd false)] :=
 (rright_any (vs := (c.length : Int)) (by have := hR.len; omega) hol hrl hi).mono fun v h q => by rw [rightB_yes hR] at q; exact q
theorem made_cases {nd nr o dd a b im k : Int} (h : madeB nd nr (o, dd, a, b, im) k = true) : dd = k ∧ ((o = 0 ∧ a = 0 ∧ b = 0) ∨ (o = 1 ∧ a = 0 ∧ b = 0 ∧ im < nd) ∨ (o = 2 ∧ a = 0 ∧ b = 0 ∧ im < nr) ∨ (o = 3 ∧ (0 ≤ a ∧ a < k) ∧ (0 ≤ b ∧ b < k) ∧ 16 ≤ im ∧ im ≤ 23) ∨ (o = 4 ∧ (0 ≤ a ∧ a < k) ∧ (0 ≤ b ∧ b < k) ∧ 16 ≤ im ∧ im ≤ 23) ∨ (o = 4 ∧ (0 ≤ a ∧ a < k) ∧ (0 ≤ b ∧ b < k) ∧ im = 25)) := by
 unfold madeB at h
 simp only [Bool.and_eq_true, decide_eq_true_eq] at h
 obtain ⟨h1, h⟩ := h
 refine ⟨h1, ?_⟩
 by_cases h0 : o = 0
 ·rw [if_pos h0] at h; simp at h; omega
 rw [if_neg h0] at h
 by_cases h2 : o = 1
 ·rw [if_pos h2] at h; simp at h; omega
 rw [if_neg h2] at h
 by_cases h3 : o = 2
 ·rw [if_pos h3] at h; simp at h; omega
 rw [if_neg h3] at h
 by_cases h4 : o = 3
 ·rw [if_pos h4] at h; simp [valB] at h; omega
 rw [if_neg h4] at h
 by_cases h5 : o = 4
 ·rw [if_pos h5] at h; simp [valB] at h; omega
 rw [if_neg h5] at h
 cases h
theorem row_of {α : Type} {l : List α} {i m : Nat} (h : m = l.length) (hi : i < m) : ∃ a, l[i]? = some a := ⟨_, List.getElem?_eq_getElem (by omega)⟩
theorem getD_of {l : List Int} {i : Nat} {v : Int} (h : l[i]? = some v) : l.getD i 0 = v := by rw [List.getD_eq_getElem?_getD, h]; rfl
theorem putL_le (V l : List Int) (n : Nat) (out : List Int) : (putL V l n out).length ≤ l.length + out.length := by unfold putL; rw [List.length_append, List.length_take, List.length_map]; omega
theorem tm16 {x : Int} (h : 0 ≤ x ∧ x < 4294967296) : 0 ≤ Int.tmod x 16 ∧ Int.tmod x 16 ≤ 15 := by rw [Int.tmod_eq_emod_of_nonneg h.1]; omega
theorem V32.take {l : List Int} (h : V32 l) (n : Nat) : V32 (l.take n) := fun x hx => h x (List.mem_of_mem_take hx)
def mkAB (d r : List Int) (A B o im : Int) : Int := if o = 0 then im else if o = 1 then argD d im.toNat else if o = 2 then argD r im.toNat else if o = 3 then doR im A B else doF im A B
theorem mkV_AB (d r V : List Int) (x : II) : mkV d r V x = mkAB d r (V.getD x.2.2.1.toNat 0) (V.getD x.2.2.2.1.toNat 0) x.1 x.2.2.2.2 := rfl
theorem made_ab9 {nd nr k : Int} {x : II} (h : madeB nd nr x k = true) : (x.2.2.1 = 0 ∧ x.2.2.2.1 = 0) ∨ ((0 ≤ x.2.2.1 ∧ x.2.2.1 < k) ∧ (0 ≤ x.2.2.2.1 ∧ x.2.2.2.1 < k)) := by
 obtain ⟨o, dd, a, b, im⟩ := x
 obtain ⟨_, h⟩ := made_cases h
 dsimp only
 omega
theorem made_op9 {nd nr k : Int} {x : II} {d r : List Int} (h : madeB nd nr x k = true) (hd : nd ≤ (d.length : Int)) (hr : nr ≤ (r.length : Int)) : x.1 = 0 ∨ (x.1 = 1 ∧ x.2.2.2.2 < (d.length : Int)) ∨ (x.1 = 2 ∧ x.2.2.2.2 < (r.length : Int)) ∨ (x.1 = 3 ∨ x.1 = 4) := by
 obtain ⟨o, dd, a, b, im⟩ := x
 obtain ⟨_, h⟩ := made_cases h
 dsimp only
 omega
theorem tm_at (A k : Nat) (h : A ≤ k) : Int.tmod (A : Int) ((k + 1 : Nat) : Int) = (A : Int) := by
 rw [Int.tmod_eq_emod_of_nonneg (by omega)]; exact Int.emod_eq_of_lt (by omega) (by omega)
theorem hB_hK {op f : Int} (h : hB op f = true) : hK op = true := by
 unfold hB at h
 unfold hK
 simp only [decide_eq_true_eq]
 by_cases h1 : op = 33
 ·omega
 rw [if_neg h1] at h
 by_cases h2 : op = 34
 ·omega
 rw [if_neg h2] at h
 by_cases h3 : op = 35
 ·omega
 rw [if_neg h3] at h
 by_cases h4 : op = 36
 ·omega
 rw [if_neg h4] at h
 by_cases h5 : op = 37
 ·omega
 rw [if_neg h5] at h
 cases h
theorem putL_len {V l : List Int} {n : Nat} {out : List Int} (h : n ≤ l.length) : (putL V l n out).length = l.length - n + out.length := by unfold putL; rw [List.length_append, List.length_take, List.length_map]; omega
theorem part0 (V l : List Int) (n : Nat) : l = putL V l n [] ++ l.drop (l.length - n) := by unfold putL; simp
noncomputable def f19b : Code := Tryd.f19.body.getD .skip
theorem f19_body : Tryd.f19.body = some f19b := by kernel_rfl
theorem f19_fn : T20.fn 19 = some Tryd.f19 := by kernel_rfl
theorem fits19_s {c : List II} {od rd : List Int} {nd nr hd hr fl nx tg br tk ct : Int} {q : Sx} {d dj r rj : List Int} {ro : Bool} {ka kb : Nat} (hR : RightP c od rd nd nr hd hr fl tg br ct (c.length : Int)) (hcl : c.length < 100000) (hol : od.length < 100000) (hrl : rd.length < 100000) (hi : ∀ x ∈ c, 0 ≤ x.2.2.2.2 ∧ x.2.2.2.2 < 4294967296) : SCall Tryd.prog T20 19 #[(pgV (s5 0 c.length) nd nr hd hr (s1 1 od.length) (s1 2 rd.length) fl nx tg br tk ct (c.length : Int)), (stq q q.pc (.slice (some ⟨3, 0, none⟩) d.length ka) (.slice (some ⟨4, 0, none⟩) r.length kb) q.fl q.cnt)] (hq [(iiCo c false), (inCo od false), (inCo rd false), (uCo (d ++ dj) ro), (uCo (r ++ rj) ro)]) fun v h => v = .bool (fitsB nd nr hd hr d r q.fl) ∧ h = hq [(iiCo c false), (inCo od false), (inCo rd false), (uCo (d ++ dj) ro), (uCo (r ++ rj) ro)] := by
 have hlen := hR.len; have q3 := hR.hd_; have q4 := hR.hr_; have q5 := hR.nd_; have q6 := hR.nr_
 rcases Bool.eq_false_or_eq_true (stOk d r q.fl) with hst | hst
 ·skip
  have hst2 := hst
  unfold stOk at hst2
  simp only [Bool.and_eq_true, decide_eq_true_eq] at hst2
  refine scall_sd 45 _ 5 kr f19_fn f19_body rfl rfl rfl fun X hX => ?_
  refine sd_run 10 (sdCp 6 17 #[(pgV (s5 0 c.length) nd nr hd hr (s1 1 od.length) (s1 2 rd.length) fl nx tg br tk ct (c.length : Int))] (@rright_s c od rd nd nr hd hr fl nx tg br tk ct hR hol hrl hi) i3_ ⟨iiC_b, inC_b, inC_b, ⟨⟩⟩ ?_)
  rintro v9 k9 ⟨rfl, rfl⟩
  refine ⟨rfl, .bool true, kr, ?_⟩
  refine sd_run 2 (sdCp 9 39 #[(stq q q.pc (.slice (some ⟨3, 0, none⟩) d.length ka) (.slice (some ⟨4, 0, none⟩) r.length kb) q.fl q.cnt)] (@stright16_s q d dj r rj ka kb ro ) [some 3, some 4] ⟨uC_b, uC_b, ⟨⟩⟩ ?_)
  rintro v9 k9 ⟨rfl, rfl⟩
  refine ⟨rfl, .bool (stOk d r q.fl), kr, ?_⟩
  refine sd_see 9 (.bool true) (see_bool kr hst) (sd_run 10 ?_)
  rcases Bool.eq_false_or_eq_true (decide ((d.length : Int) ≥ nd)) with hc1 | hc1
  ·skip
   refine sd_see 19 (.bool true) (see_bool kr hc1) (sd_run 6 (sd_see 25 (.int .i64 ((d.length : Int) + hd)) (see_int (x := (IntKind.i64.wrap ((d.length : Int) + hd))) kr (w64 (by omega) (by omega) (by omega))) (sd_run 3 ?_)))
   rcases Bool.eq_false_or_eq_true (decide (((d.length : Int) + hd) ≤ 16)) with hc2 | hc2
   ·skip
    refine sd_see 28 (.bool true) (see_bool kr hc2) (sd_run 8 ?_)
    rcases Bool.eq_false_or_eq_true (decide ((r.length : Int) ≥ nr)) with hc3 | hc3
    ·skip
     refine sd_see 36 (.bool true) (see_bool kr hc3) (sd_run 6 (sd_see 42 (.int .i64 ((r.length : Int) + hr)) (see_int (x := (IntKind.i64.wrap ((r.length : Int) + hr))) kr (w64 (by omega) (by omega) (by omega))) (sd_run 6 ?_)))
     rcases Bool.eq_false_or_eq_true (decide (((r.length : Int) + hr) ≤ 16)) with hc4 | hc4
     ·skip
      refine sd_see 4 (.bool true) (see_bool kr hc4) ?_
      simp only [bd] at hc1 hc2 hc3 hc4
      refine sdY (.bool true) hX [(iiCo c false), (inCo od false), (inCo rd false), (uCo (d ++ dj) ro), (uCo (r ++ rj) ro)] i5_ ⟨iiC_b, inC_b, inC_b, uC_b, uC_b, ⟨⟩⟩ ⟨(by congr 1; unfold fitsB fitB; rw [hst, Bool.true_and, Bool.eq_iff_iff]; simp; omega), rfl⟩
     ·skip
      refine sd_see 4 (.bool false) (see_bool kr hc4) ?_
      simp only [bd] at hc1 hc2 hc3 hc4
      refine sdY (.bool false) hX [(iiCo c false), (inCo od false), (inCo rd false), (uCo (d ++ dj) ro), (uCo (r ++ rj) ro)] i5_ ⟨iiC_b, inC_b, inC_b, uC_b, uC_b, ⟨⟩⟩ ⟨(by congr 1; unfold fitsB fitB; rw [hst, Bool.true_and, Bool.eq_iff_iff]; simp; omega), rfl⟩
    ·skip
     refine sd_see 36 (.bool false) (see_bool kr hc3) (sd_run 12 ?_)
     simp only [bd] at hc1 hc2 hc3
     refine sdY (.bool false) hX [(iiCo c false), (inCo od false), (inCo rd false), (uCo (d ++ dj) ro), (uCo (r ++ rj) ro)] i5_ ⟨iiC_b, inC_b, inC_b, uC_b, uC_b, ⟨⟩⟩ ⟨(by congr 1; unfold fitsB fitB; rw [hst, Bool.true_and, Bool.eq_iff_iff]; simp; omega), rfl⟩
   ·skip
    refine sd_see 28 (.bool false) (see_bool kr hc2) (sd_run 20 ?_)
    simp only [bd] at hc1 hc2
    refine sdY (.bool false) hX [(iiCo c false), (inCo od false), (inCo rd false), (uCo (d ++ dj) ro), (uCo (r ++ rj) ro)] i5_ ⟨iiC_b, inC_b, inC_b, uC_b, uC_b, ⟨⟩⟩ ⟨(by congr 1; unfold fitsB fitB; rw [hst, Bool.true_and, Bool.eq_iff_iff]; simp; omega), rfl⟩
  ·skip
   refine sd_see 19 (.bool false) (see_bool kr hc1) (sd_run 29 ?_)
   simp only [bd] at hc1
   refine sdY (.bool false) hX [(iiCo c false), (inCo od false), (inCo rd false), (uCo (d ++ dj) ro), (uCo (r ++ rj) ro)] i5_ ⟨iiC_b, inC_b, inC_b, uC_b, uC_b, ⟨⟩⟩ ⟨(by congr 1; unfold fitsB fitB; rw [hst, Bool.true_and, Bool.eq_iff_iff]; simp; omega), rfl⟩
 ·skip
  refine scall_sd 45 _ 5 kr f19_fn f19_body rfl rfl rfl fun X hX => ?_
  refine sd_run 10 (sdCp 6 17 #[(pgV (s5 0 c.length) nd nr hd hr (s1 1 od.length) (s1 2 rd.length) fl nx tg br tk ct (c.length : Int))] (@rright_s c od rd nd nr hd hr fl nx tg br tk ct hR hol hrl hi) i3_ ⟨iiC_b, inC_b, inC_b, ⟨⟩⟩ ?_)
  rintro v9 k9 ⟨rfl, rfl⟩
  refine ⟨rfl, .bool true, kr, ?_⟩
  refine sd_run 2 (sdCp 9 39 #[(stq q q.pc (.slice (some ⟨3, 0, none⟩) d.length ka) (.slice (some ⟨4, 0, none⟩) r.length kb) q.fl q.cnt)] (@stright16_s q d dj r rj ka kb ro ) [some 3, some 4] ⟨uC_b, uC_b, ⟨⟩⟩ ?_)
  rintro v9 k9 ⟨rfl, rfl⟩
  refine ⟨rfl, .bool (stOk d r q.fl), kr, ?_⟩
  refine sd_see 9 (.bool false) (see_bool kr hst) (sd_run 39 ?_)
  refine sdY (.bool false) hX [(iiCo c false), (inCo od false), (inCo rd false), (uCo (d ++ dj) ro), (uCo (r ++ rj) ro)] i5_ ⟨iiC_b, inC_b, inC_b, uC_b, uC_b, ⟨⟩⟩ ⟨(by congr 1; unfold fitsB; rw [hst]; rfl), rfl⟩
theorem fits19_no {c : List II} {od rd : List Int} {nd nr hd hr fl nx tg br tk ct vs : Int} {q : Sx} {d dj r rj : List Int} {ro : Bool} {ka kb : Nat} (hno : rightB c od rd nd nr hd hr fl tg br ct vs = false) (hcl : c.length < 100000) (hol : od.length < 100000) (hrl : rd.length < 100000) (hi : ∀ x ∈ c, 0 ≤ x.2.2.2.2 ∧ x.2.2.2.2 < 4294967296) : SCall Tryd.prog T20 19 #[(pgV (s5 0 c.length) nd nr hd hr (s1 1 od.length) (s1 2 rd.length) fl nx tg br tk ct vs), (stq q q.pc (.slice (some ⟨3, 0, none⟩) d.length ka) (.slice (some ⟨4, 0, none⟩) r.length kb) q.fl q.cnt)] (hq [(iiCo c false), (inCo od false), (inCo rd false), (uCo (d ++ dj) ro), (uCo (r ++ rj) ro)]) fun v h => v = .bool false ∧ h = hq [(iiCo c false), (inCo od false), (inCo rd false), (uCo (d ++ dj) ro), (uCo (r ++ rj) ro)] := by
 refine scall_sd 45 _ 5 kr f19_fn f19_body rfl rfl rfl fun X hX => ?_
 refine sd_run 10 (sdCp 6 17 #[(pgV (s5 0 c.length) nd nr hd hr (s1 1 od.length) (s1 2 rd.length) fl nx tg br tk ct vs)] (@rright_any c od rd nd nr hd hr fl nx tg br tk ct vs hcl hol hrl hi) i3_ ⟨iiC_b, inC_b, inC_b, ⟨⟩⟩ ?_)
 rintro v9 k9 ⟨rfl, rfl⟩
 refine ⟨rfl, .bool (rightB c od rd nd nr hd hr fl tg br ct vs), kr, ?_⟩
 refine sd_see 6 (.bool false) (see_bool kr hno) (sd_run 42 ?_)
 refine sdY (.bool false) hX [(iiCo c false), (inCo od false), (inCo rd false), (uCo (d ++ dj) ro), (uCo (r ++ rj) ro)] i5_ ⟨iiC_b, inC_b, inC_b, uC_b, uC_b, ⟨⟩⟩ ⟨rfl, rfl⟩
noncomputable def f31b : Code := Tryd.f31.body.getD .skip
theorem f31_body : Tryd.f31.body = some f31b := by kernel_rfl
theorem f31_fn : T20.fn 31 = some Tryd.f31 := by kernel_rfl
set_option maxHeartbeats 1000000 in
theorem value19_s {o dst a b im A B : Int} {q : Sx} {d dj r rj : List Int} {ro : Bool} {ka kb : Nat} (ho : o = 0 ∨ (o = 1 ∧ im < (d.length : Int)) ∨ (o = 2 ∧ im < (r.length : Int)) ∨ (o = 3 ∨ o = 4)) (hi : 0 ≤ im ∧ im < 4294967296) (hA : 0 ≤ A ∧ A < 4294967296) (hB9 : 0 ≤ B ∧ B < 4294967296) (hdl : d.length ≤ 16) (hrl : r.length ≤ 16) : SCall Tryd.prog T20 31 #[(c5A o dst a b im), (stq q q.pc (.slice (some ⟨0, 0, none⟩) d.length ka) (.slice (some ⟨1, 0, none⟩) r.length kb) q.fl q.cnt), .int .u32 A, .int .u32 B] (hq [(uCo (d ++ dj) ro), (uCo (r ++ rj) ro)]) fun v h => v = .int .u32 (mkAB d r A B o im) ∧ h = hq [(uCo (d ++ dj) ro), (uCo (r ++ rj) ro)] := by
 rcases ho with ho0 | ⟨ho1, ho2⟩ | ⟨ho1, ho2⟩ | ho1 | ho1
 ·skip
  refine scall_sd 61 _ 2 kr f31_fn f31_body rfl rfl rfl fun X hX => ?_
  refine sd_run 18 (sdE 15 (o : Int) 0 (by omega) kr (sd_run 14 ?_))
  refine sdY (.int .u32 im) hX [(uCo (d ++ dj) ro), (uCo (r ++ rj) ro)] i2_ ⟨uC_b, uC_b, ⟨⟩⟩ ⟨(by congr 1; unfold mkAB; rw [if_pos ho0]), rfl⟩
 ·skip
  obtain ⟨AA, hAA⟩ := Int.eq_ofNat_of_zero_le hi.1
  refine scall_sd 61 _ 2 kr f31_fn f31_body rfl rfl rfl fun X hX => ?_
  refine sd_run 18 (sdN 15 (o : Int) 0 (by omega) kr (sd_run 7 (sdE 19 (o : Int) 1 (by omega) kr (sd_run 12 (sd_see 25 (.int .i64 ((d.length : Int) - 1)) (see_int (x := (IntKind.i64.wrap ((d.length : Int) - 1))) kr (i64w (by omega) (by omega) (by omega))) (sd_run 3 (sd_see 28 (.int .i64 im) (see_int (x := IntKind.i64.wrap im) kr (w64 rfl (by omega) (by omega))) ?_)))))))
  refine sd_run 1 (sd_see 29 (.int .i64 (((d.length - 1 - AA) : Nat) : Int)) (see_int (x := (IntKind.i64.wrap (((d.length : Int) - 1) - im))) kr (i64w (by omega) (by omega) (by omega))) (sd_ix 30 (.pointer (some ⟨0, 0 + (d.length - 1 - AA) * 1, none⟩)) (d.length - 1 - AA) d.length kr kr kr (by first | omega | (simp; done) | (simp; omega)) ?_))
  obtain ⟨a1, ha1⟩ : ∃ x_, (d)[d.length - 1 - AA]? = some x_ := ⟨_, List.getElem?_eq_getElem (by omega)⟩
  refine sd_ld 31 (.int .u32 a1) 24 (.pointer (some ⟨0, 0 + (d.length - 1 - AA) * 1, none⟩)) kr kr kr (ld_cell (l := d ++ dj) (e := 24) (ro := ro) (k := d.length - 1 - AA) (j := 0) uC_len kr kr kr (app_at ha1) rfl) (sd_run 6 ?_)
  refine sdY (.int .u32 a1) hX [(uCo (d ++ dj) ro), (uCo (r ++ rj) ro)] i2_ ⟨uC_b, uC_b, ⟨⟩⟩ ⟨(by congr 1; unfold mkAB argD; rw [if_neg (by omega), if_pos ho1, show im.toNat = AA by omega, List.getD_eq_getElem?_getD, ha1]; rfl), rfl⟩
 ·skip
  obtain ⟨AA, hAA⟩ := Int.eq_ofNat_of_zero_le hi.1
  refine scall_sd 61 _ 2 kr f31_fn f31_body rfl rfl rfl fun X hX => ?_
  refine sd_run 18 (sdN 15 (o : Int) 0 (by omega) kr (sd_run 7 (sdN 19 (o : Int) 1 (by omega) kr (sd_run 7 (sdE 33 (o : Int) 2 (by omega) kr (sd_run 12 (sd_see 39 (.int .i64 ((r.length : Int) - 1)) (see_int (x := (IntKind.i64.wrap ((r.length : Int) - 1))) kr (i64w (by omega) (by omega) (by omega))) ?_)))))))
  refine sd_run 3 (sd_see 42 (.int .i64 im) (see_int (x := IntKind.i64.wrap im) kr (w64 rfl (by omega) (by omega))) (sd_run 1 (sd_see 43 (.int .i64 (((r.length - 1 - AA) : Nat) : Int)) (see_int (x := (IntKind.i64.wrap (((r.length : Int) - 1) - im))) kr (i64w (by omega) (by omega) (by omega))) (sd_ix 44 (.pointer (some ⟨1, 0 + (r.length - 1 - AA) * 1, none⟩)) (r.length - 1 - AA) r.length kr kr kr (by first | omega | (simp; done) | (simp; omega)) ?_))))
  obtain ⟨a2, ha2⟩ : ∃ x_, (r)[r.length - 1 - AA]? = some x_ := ⟨_, List.getElem?_eq_getElem (by omega)⟩
  refine sd_ld 45 (.int .u32 a2) 24 (.pointer (some ⟨1, 0 + (r.length - 1 - AA) * 1, none⟩)) kr kr kr (ld_cell (l := r ++ rj) (e := 24) (ro := ro) (k := r.length - 1 - AA) (j := 0) uC_len kr kr kr (app_at ha2) rfl) (sd_run 6 ?_)
  refine sdY (.int .u32 a2) hX [(uCo (d ++ dj) ro), (uCo (r ++ rj) ro)] i2_ ⟨uC_b, uC_b, ⟨⟩⟩ ⟨(by congr 1; unfold mkAB argD; rw [if_neg (by omega), if_neg (by omega), if_pos ho1, show im.toNat = AA by omega, List.getD_eq_getElem?_getD, ha2]; rfl), rfl⟩
 ·skip
  refine scall_sd 61 _ 2 kr f31_fn f31_body rfl rfl rfl fun X hX => ?_
  refine sd_run 18 (sdN 15 (o : Int) 0 (by omega) kr (sd_run 7 (sdN 19 (o : Int) 1 (by omega) kr (sd_run 7 (sdN 33 (o : Int) 2 (by omega) kr (sd_run 12 (sd_see 49 (.int .i64 im) (see_int (x := IntKind.i64.wrap im) kr (w64 rfl (by omega) (by omega))) ?_)))))))
  refine sd_run 2 (sd_ask 52 (.tuple #[.int .u32 (doR im A B), .int .u32 (doF im A B), .bool (doK im B)]) 56 #[.int .i64 im, .int .u32 A, .int .u32 B] kr kr kr (orc56 im A B (u32B2 hA hB9)) (sd_run 15 (sdN 58 (o : Int) 4 (by omega) kr (sd_run 12 ?_))))
  refine sdY (.int .u32 (doR im A B)) hX [(uCo (d ++ dj) ro), (uCo (r ++ rj) ro)] i2_ ⟨uC_b, uC_b, ⟨⟩⟩ ⟨(by congr 1; unfold mkAB; rw [if_neg (by omega), if_neg (by omega), if_neg (by omega), if_pos ho1]), rfl⟩
 ·skip
  refine scall_sd 61 _ 2 kr f31_fn f31_body rfl rfl rfl fun X hX => ?_
  refine sd_run 18 (sdN 15 (o : Int) 0 (by omega) kr (sd_run 7 (sdN 19 (o : Int) 1 (by omega) kr (sd_run 7 (sdN 33 (o : Int) 2 (by omega) kr (sd_run 12 (sd_see 49 (.int .i64 im) (see_int (x := IntKind.i64.wrap im) kr (w64 rfl (by omega) (by omega))) ?_)))))))
  refine sd_run 2 (sd_ask 52 (.tuple #[.int .u32 (doR im A B), .int .u32 (doF im A B), .bool (doK im B)]) 56 #[.int .i64 im, .int .u32 A, .int .u32 B] kr kr kr (orc56 im A B (u32B2 hA hB9)) (sd_run 15 (sdE 58 (o : Int) 4 (by omega) kr (sd_run 11 ?_))))
  refine sdY (.int .u32 (doF im A B)) hX [(uCo (d ++ dj) ro), (uCo (r ++ rj) ro)] i2_ ⟨uC_b, uC_b, ⟨⟩⟩ ⟨(by congr 1; unfold mkAB; rw [if_neg (by omega), if_neg (by omega), if_neg (by omega), if_neg (by omega)]), rfl⟩
end Ls
end Go.Proofs.YtgpphhdndmdlgaaDoor
