/- Chapter 21: the document: which blocks fit; what a value is. -/
import Derived.Test.YtegjicaoemhhlaaJg
import Derived.Test.YtegjicaoemhhlaaJj
import Derived.Test.YtegjicaoemhhlaaJo
import Derived.Test.YtegjicaoemhhlaaJq
set_option linter.unusedVariables false
set_option linter.unusedSimpArgs false
namespace Go.Proofs.Ytegjicaoemhhlaa
open Go Go.Ev Go.RowKit
set_option maxRecDepth 100000
namespace Ls
def bnOf (c : Cf) : Option (BinOp × TypeId × Value × Value) := match (opC c).op with
 | .binOp op t x y _ => (match aeval c.s.tm x, aeval c.s.tm y with | some u, some v => some (op, t, u, v) | _, _ => none)
 | _ => none
theorem sd_bin {P : Program} {T : Tab} {X : Cx} {Q : Xt → St → Prop} {c : Cf} (t : Nat) (v : Value) (op : BinOp) (ty : TypeId) (u w : Value) (ho : okOp c t = true) (hs : strictC c = true) (hA : bnOf c = some (op, ty, u, w)) (hb : abin T op ty u w = some v) (hk : SD P T X Q (c.put t v c.s.H)) : SD P T X Q c := by
 refine sd_val t v c.s.H ho hs ?_ hk;unfold bnOf at hA;split at hA
 ·rename_i op' ty' x y po hop;split at hA
  ·rename_i u' w' e1 e2;cases hA;unfold aop;simp only [hop, e1, e2, hb, orVal, val]
  ·cases hA
 ·cases hA
theorem ab_rem {T : Tab} {t : TypeId} {k : IntKind} {a b : Int} (h : (b == 0) = false) : abin T .rem t (.int k a) (.int k b) = some (.int k (a.tmod b)) := by
 have hk : (k == k) = true := by simp
 simp only [abin, isShift, hk, cond_false, cond_true, ibin, h]
def mkAB (d r : List Int) (A B o im : Int) : Int := if o = 0 then im else if o = 1 then argD d im.toNat else if o = 2 then argD r im.toNat else if o = 3 then doR im A B else doF im A B
theorem mkV_AB (d r V : List Int) (x : II) : mkV d r V x = mkAB d r (V.getD x.2.2.1.toNat 0) (V.getD x.2.2.2.1.toNat 0) x.1 x.2.2.2.2 := rfl
theorem made_ab9 {nd nr k : Int} {x : II} (h : madeB nd nr x k = true) : (x.2.2.1 = 0 ∧ x.2.2.2.1 = 0) ∨ ((0 ≤ x.2.2.1 ∧ x.2.2.1 < k) ∧ (0 ≤ x.2.2.2.1 ∧ x.2.2.2.1 < k)) := by
 obtain ⟨o, dd, a, b, im⟩ := x;obtain ⟨_, h⟩ := made_cases h;dsimp only;omega
theorem made_op9 {nd nr k : Int} {x : II} {d r : List Int} (h : madeB nd nr x k = true) (hd : nd ≤ (d.length : Int)) (hr : nr ≤ (r.length : Int)) : x.1 = 0 ∨ (x.1 = 1 ∧ x.2.2.2.2 < (d.length : Int)) ∨ (x.1 = 2 ∧ x.2.2.2.2 < (r.length : Int)) ∨ (x.1 = 3 ∨ x.1 = 4) := by
 obtain ⟨o, dd, a, b, im⟩ := x;obtain ⟨_, h⟩ := made_cases h;dsimp only;omega
theorem tm_at (A k : Nat) (h : A ≤ k) : Int.tmod (A : Int) ((k + 1 : Nat) : Int) = (A : Int) := by
 rw [Int.tmod_eq_emod_of_nonneg (by omega)]; exact Int.emod_eq_of_lt (by omega) (by omega)
theorem hB_hK {op f : Int} (h : hB op f = true) : hK op = true := by
 unfold hB at h;unfold hK;simp only [decide_eq_true_eq]
 by_cases h1 : op = 33
 ·omega
 rw [if_neg h1] at h
 by_cases h2 : op = 34
 ·omega
 rw [if_neg h2] at h
 by_cases h3 : op = 35
 ·omega
 rw [if_neg h3] at h
 by_cases h4 : op = 36
 ·omega
 rw [if_neg h4] at h
 by_cases h5 : op = 37
 ·omega
 rw [if_neg h5] at h;cases h
theorem putL_len {V l : List Int} {n : Nat} {out : List Int} (h : n ≤ l.length) : (putL V l n out).length = l.length - n + out.length := by unfold putL; rw [List.length_append, List.length_take, List.length_map]; omega
theorem part0 (V l : List Int) (n : Nat) : l = putL V l n [] ++ l.drop (l.length - n) := by unfold putL; simp
noncomputable def f41b : Code := Try.f41.body.getD .skip
theorem fits19_s {c : List II} {od rd : List Int} {nd nr hd hr fl nx tg br tk ct : Int} {q : Sx} {d dj r rj : List Int} {ro : Bool} {ka kb : Nat} (hR : RightP c od rd nd nr hd hr fl tg br ct (c.length : Int)) (hcl : c.length < 100000) (hol : od.length < 100000) (hrl : rd.length < 100000) (hi : ∀ x ∈ c, 0 ≤ x.2.2.2.2 ∧ x.2.2.2.2 < 4294967296) : SCall Try.prog T16 41 #[(pgV (s5 0 c.length) nd nr hd hr (s1 1 od.length) (s1 2 rd.length) fl nx tg br tk ct (c.length : Int)), (stq q q.pc (sK 3 d.length ka) (sK 4 r.length kb) q.fl q.cnt)] (hq [(iiF c), (inF od), (inF rd), (uCo (d ++ dj) ro), (uCo (r ++ rj) ro)]) fun v h => v = .bool (fitsB nd nr hd hr d r q.fl) ∧ h = hq [(iiF c), (inF od), (inF rd), (uCo (d ++ dj) ro), (uCo (r ++ rj) ro)] := by
 have hlen := hR.len; have q3 := hR.hd_; have q4 := hR.hr_; have q5 := hR.nd_; have q6 := hR.nr_;rcases Bool.eq_false_or_eq_true (stOk d r q.fl) with hst | hst
 ·have hst2 := hst;unfold stOk at hst2;simp only [Bool.and_eq_true, decide_eq_true_eq] at hst2;refine zS Try.f41 f41b 45 5 fun X hX => ?_
  refine sd_run 10 (zG 6 20 #[(pgV (s5 0 c.length) nd nr hd hr (s1 1 od.length) (s1 2 rd.length) fl nx tg br tk ct (c.length : Int))] (@rright_s c od rd nd nr hd hr fl nx tg br tk ct hR hol hrl hi) i3_ ?_);rintro v9 k9 ⟨rfl, rfl⟩;refine ⟨rfl, .bool true, kr, ?_⟩;refine sd_run 2 (zG 9 67 #[(stq q q.pc (sK 3 d.length ka) (sK 4 r.length kb) q.fl q.cnt)] (@stright16_s q d dj r rj ka kb ro ) [some 3, some 4] ?_);rintro v9 k9 ⟨rfl, rfl⟩;refine ⟨rfl, .bool (stOk d r q.fl), kr, ?_⟩;refine sd_see 9 (.bool true) (see_bool kr hst) (sd_run 10 ?_);refine zB 0 19 (decide ((d.length : Int) ≥ nd)) (fun hc1 => ?_) fun hc1 => ?_
  ·refine zI 6 25 .i64 ((d.length : Int) + hd) (IntKind.i64.wrap ((d.length : Int) + hd)) (sd_run 3 ?_);refine zB 0 28 (decide (((d.length : Int) + hd) ≤ 16)) (fun hc2 => ?_) fun hc2 => ?_
   ·refine zB 8 36 (decide ((r.length : Int) ≥ nr)) (fun hc3 => ?_) fun hc3 => ?_
    ·refine zI 6 42 .i64 ((r.length : Int) + hr) (IntKind.i64.wrap ((r.length : Int) + hr)) (sd_run 6 ?_);refine zB 0 4 (decide (((r.length : Int) + hr) ≤ 16)) (fun hc4 => ?_) fun hc4 => ?_
     ·simp only [bd] at hc1 hc2 hc3 hc4;refine zY (.bool true) hX i5_ ⟨(by congr 1; unfold fitsB fitB; rw [hst, Bool.true_and, Bool.eq_iff_iff]; simp; omega), rfl⟩
     ·simp only [bd] at hc1 hc2 hc3 hc4;refine zY (.bool false) hX i5_ ⟨(by congr 1; unfold fitsB fitB; rw [hst, Bool.true_and, Bool.eq_iff_iff]; simp; omega), rfl⟩
    ·refine sd_run 12 ?_;simp only [bd] at hc1 hc2 hc3;refine zY (.bool false) hX i5_ ⟨(by congr 1; unfold fitsB fitB; rw [hst, Bool.true_and, Bool.eq_iff_iff]; simp; omega), rfl⟩
   ·refine sd_run 20 ?_;simp only [bd] at hc1 hc2;refine zY (.bool false) hX i5_ ⟨(by congr 1; unfold fitsB fitB; rw [hst, Bool.true_and, Bool.eq_iff_iff]; simp; omega), rfl⟩
  ·refine sd_run 29 ?_;simp only [bd] at hc1;refine zY (.bool false) hX i5_ ⟨(by congr 1; unfold fitsB fitB; rw [hst, Bool.true_and, Bool.eq_iff_iff]; simp; omega), rfl⟩
 ·refine zS Try.f41 f41b 45 5 fun X hX => ?_
  refine sd_run 10 (zG 6 20 #[(pgV (s5 0 c.length) nd nr hd hr (s1 1 od.length) (s1 2 rd.length) fl nx tg br tk ct (c.length : Int))] (@rright_s c od rd nd nr hd hr fl nx tg br tk ct hR hol hrl hi) i3_ ?_);rintro v9 k9 ⟨rfl, rfl⟩;refine ⟨rfl, .bool true, kr, ?_⟩;refine sd_run 2 (zG 9 67 #[(stq q q.pc (sK 3 d.length ka) (sK 4 r.length kb) q.fl q.cnt)] (@stright16_s q d dj r rj ka kb ro ) [some 3, some 4] ?_);rintro v9 k9 ⟨rfl, rfl⟩;refine ⟨rfl, .bool (stOk d r q.fl), kr, ?_⟩;refine sd_see 9 (.bool false) (see_bool kr hst) (sd_run 39 ?_);refine zY (.bool false) hX i5_ ⟨(by congr 1; unfold fitsB; rw [hst]; rfl), rfl⟩
noncomputable def f42b : Code := Try.f42.body.getD .skip
set_option maxHeartbeats 1000000 in
theorem value19_s {o dst a b im A B : Int} {q : Sx} {d dj r rj : List Int} {ro : Bool} {ka kb : Nat} (ho : o = 0 ∨ (o = 1 ∧ im < (d.length : Int)) ∨ (o = 2 ∧ im < (r.length : Int)) ∨ (o = 3 ∨ o = 4)) (hi : 0 ≤ im ∧ im < 4294967296) (hA : 0 ≤ A ∧ A < 4294967296) (hB9 : 0 ≤ B ∧ B < 4294967296) (hdl : d.length ≤ 16) (hrl : r.length ≤ 16) : SCall Try.prog T16 42 #[.agg #[jI o, jI dst, jI a, jI b, jU im], (stq q q.pc (sK 0 d.length ka) (sK 1 r.length kb) q.fl q.cnt), jU A, jU B] (hq [(uCo (d ++ dj) ro), (uCo (r ++ rj) ro)]) fun v h => v = jU (mkAB d r A B o im) ∧ h = hq [(uCo (d ++ dj) ro), (uCo (r ++ rj) ro)] := by
 rcases ho with ho0 | ⟨ho1, ho2⟩ | ⟨ho1, ho2⟩ | ho1 | ho1
 ·refine zS Try.f42 f42b 61 2 fun X hX => ?_
  refine zE 18 15 (o : Int) 0 (sd_run 14 ?_);refine zY (jU im) hX i2_ ⟨(by congr 1; unfold mkAB; rw [if_pos ho0]), rfl⟩
 ·obtain ⟨AA, hAA⟩ := Int.eq_ofNat_of_zero_le hi.1;refine zS Try.f42 f42b 61 2 fun X hX => ?_
  refine zN 18 15 (o : Int) 0 (zE 7 19 (o : Int) 1 (zI 12 25 .i64 ((d.length : Int) - 1) (IntKind.i64.wrap ((d.length : Int) - 1)) (zI 3 28 .i64 im (IntKind.i64.wrap im) ?_)));refine zI 1 29 .i64 (((d.length - 1 - AA) : Nat) : Int) (IntKind.i64.wrap (((d.length : Int) - 1) - im)) (zX 0 30 (pT 0 (0 + (d.length - 1 - AA) * 1)) (d.length - 1 - AA) d.length ?_);obtain ⟨a1, ha1⟩ := zR d (d.length - 1 - AA);refine sd_ld 31 (jU a1) 27 (pT 0 (0 + (d.length - 1 - AA) * 1)) kr kr kr (ld_cell (l := d ++ dj) (e := 27) (ro := ro) (k := d.length - 1 - AA) (j := 0) uC_len kr kr kr (app_at ha1) rfl) (sd_run 6 ?_);refine zY (jU a1) hX i2_ ⟨(by congr 1; unfold mkAB argD; rw [if_neg zo, if_pos ho1, show im.toNat = AA by omega, List.getD_eq_getElem?_getD, ha1]; rfl), rfl⟩
 ·obtain ⟨AA, hAA⟩ := Int.eq_ofNat_of_zero_le hi.1;refine zS Try.f42 f42b 61 2 fun X hX => ?_
  refine zN 18 15 (o : Int) 0 (zN 7 19 (o : Int) 1 (zE 7 33 (o : Int) 2 (zI 12 39 .i64 ((r.length : Int) - 1) (IntKind.i64.wrap ((r.length : Int) - 1)) ?_)));refine zI 3 42 .i64 im (IntKind.i64.wrap im) (zI 1 43 .i64 (((r.length - 1 - AA) : Nat) : Int) (IntKind.i64.wrap (((r.length : Int) - 1) - im)) (zX 0 44 (pT 1 (0 + (r.length - 1 - AA) * 1)) (r.length - 1 - AA) r.length ?_));obtain ⟨a2, ha2⟩ := zR r (r.length - 1 - AA);refine sd_ld 45 (jU a2) 27 (pT 1 (0 + (r.length - 1 - AA) * 1)) kr kr kr (ld_cell (l := r ++ rj) (e := 27) (ro := ro) (k := r.length - 1 - AA) (j := 0) uC_len kr kr kr (app_at ha2) rfl) (sd_run 6 ?_);refine zY (jU a2) hX i2_ ⟨(by congr 1; unfold mkAB argD; rw [if_neg zo, if_neg zo, if_pos ho1, show im.toNat = AA by omega, List.getD_eq_getElem?_getD, ha2]; rfl), rfl⟩
 ·refine zS Try.f42 f42b 61 2 fun X hX => ?_
  refine zN 18 15 (o : Int) 0 (zN 7 19 (o : Int) 1 (zN 7 33 (o : Int) 2 (zI 12 49 .i64 im (IntKind.i64.wrap im) ?_)));refine sd_run 2 (sd_ask 52 (.tuple #[jU (doR im A B), jU (doF im A B), .bool (doK im B)]) 68 #[jI im, jU A, jU B] kr kr kr (orc68 im A B (u32B2 hA hB9)) (zN 15 58 (o : Int) 4 (sd_run 12 ?_)));refine zY (jU (doR im A B)) hX i2_ ⟨(by congr 1; unfold mkAB; rw [if_neg zo, if_neg zo, if_neg zo, if_pos ho1]), rfl⟩
 ·refine zS Try.f42 f42b 61 2 fun X hX => ?_
  refine zN 18 15 (o : Int) 0 (zN 7 19 (o : Int) 1 (zN 7 33 (o : Int) 2 (zI 12 49 .i64 im (IntKind.i64.wrap im) ?_)));refine sd_run 2 (sd_ask 52 (.tuple #[jU (doR im A B), jU (doF im A B), .bool (doK im B)]) 68 #[jI im, jU A, jU B] kr kr kr (orc68 im A B (u32B2 hA hB9)) (zE 15 58 (o : Int) 4 (sd_run 11 ?_)));refine zY (jU (doF im A B)) hX i2_ ⟨(by congr 1; unfold mkAB; rw [if_neg zo, if_neg zo, if_neg zo, if_neg zo]), rfl⟩
end Ls
end Go.Proofs.Ytegjicaoemhhlaa
