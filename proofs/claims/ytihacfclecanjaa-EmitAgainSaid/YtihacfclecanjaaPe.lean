/- Chapter 22: the host's operation; what it makes of two registers. -/
import Derived.Test.YtihacfclecanjaaPd
import Derived.Test.YtihacfclecanjaaPb
set_option linter.unusedVariables false
set_option linter.unusedSimpArgs false
namespace Go.Proofs.Ytihacfclecanjaa
open Go Go.Ev Go.RowKit
set_option maxRecDepth 100000
namespace Ls
noncomputable def f102b : Code := Try.f102.body.getD .skip
theorem e_host_s {op : Int}  : SCall Try.prog T15 102 #[jU op] (hq []) fun v h => ∃ (v1 : Int), v1 = hostO op ∧ v = jI v1 ∧ h = hq [] := by
 refine zS Try.f102 f102b 18 0 fun X hX => ?_
 refine zB 18 4 ((op : Int) == 16) (fun hc1 => ?_) fun hc1 => ?_
 ·refine sd_run 9 ?_;simp only [bd] at hc1;refine zY (jI 3) hX [] ⟨3, (by unfold hostO; (repeat' split) <;> omega), rfl, rfl⟩
 ·refine zB 7 6 ((op : Int) == 18) (fun hc2 => ?_) fun hc2 => ?_
  ·refine sd_run 9 ?_;simp only [bd] at hc1 hc2;refine zY (jI 5) hX [] ⟨5, (by unfold hostO; (repeat' split) <;> omega), rfl, rfl⟩
  ·refine zB 7 8 ((op : Int) == 19) (fun hc3 => ?_) fun hc3 => ?_
   ·refine sd_run 9 ?_;simp only [bd] at hc1 hc2 hc3;refine zY (jI 6) hX [] ⟨6, (by unfold hostO; (repeat' split) <;> omega), rfl, rfl⟩
   ·refine zB 7 10 ((op : Int) == 20) (fun hc4 => ?_) fun hc4 => ?_
    ·refine sd_run 9 ?_;simp only [bd] at hc1 hc2 hc3 hc4;refine zY (jI 7) hX [] ⟨7, (by unfold hostO; (repeat' split) <;> omega), rfl, rfl⟩
    ·refine zB 7 12 ((op : Int) == 21) (fun hc5 => ?_) fun hc5 => ?_
     ·refine sd_run 9 ?_;simp only [bd] at hc1 hc2 hc3 hc4 hc5;refine zY (jI 8) hX [] ⟨8, (by unfold hostO; (repeat' split) <;> omega), rfl, rfl⟩
     ·refine zB 7 14 ((op : Int) == 22) (fun hc6 => ?_) fun hc6 => ?_
      ·refine sd_run 9 ?_;simp only [bd] at hc1 hc2 hc3 hc4 hc5 hc6;refine zY (jI 9) hX [] ⟨9, (by unfold hostO; (repeat' split) <;> omega), rfl, rfl⟩
      ·refine zB 7 16 ((op : Int) == 23) (fun hc7 => ?_) fun hc7 => ?_
       ·refine sd_run 9 ?_;simp only [bd] at hc1 hc2 hc3 hc4 hc5 hc6 hc7;refine zY (jI 10) hX [] ⟨10, (by unfold hostO; (repeat' split) <;> omega), rfl, rfl⟩
       ·refine sd_run 10 ?_;simp only [bd] at hc1 hc2 hc3 hc4 hc5 hc6 hc7;refine zY (jI 4) hX [] ⟨4, (by unfold hostO; (repeat' split) <;> omega), rfl, rfl⟩
noncomputable def f82b : Code := Try.f82.body.getD .skip
theorem e_alu_s {c : List II} {od rd rg sl : List Int} {l : List II} {fix : List Int} {nd nr hd hr fl nx tg br tk ct slots : Int} {op r1 r2 r3 : Int} (hll : l.length < 80000) : SCall Try.prog T15 82 #[pT 0 0, jU op, jI r1, jI r2, jI r3] (hq [oB 102 (ecL 1 4 5 c.length (s1 2 od.length) (s1 3 rd.length) nd nr hd hr fl nx tg br tk ct slots (s5 6 l.length) (s1 7 fix.length)), (iiF c), (inF od), (inF rd), (inF rg), (inF sl), (hhF l), (inF fix)]) fun v h => ∃ (l1 : List II), l1 = l ++ aluC op r1 r2 r3 ∧ l1.length ≤ l.length + 3 ∧ v = .tuple #[] ∧ h = hq [oB 102 (ecL 1 4 5 c.length (s1 2 od.length) (s1 3 rd.length) nd nr hd hr fl nx tg br tk ct slots (s5 8 l1.length) (s1 7 fix.length)), (iiF c), (inF od), (inF rd), (inF rg), (inF sl), none, (inF fix), (hhF l1)] := by
 refine zS Try.f82 f82b 26 8 fun X hX => ?_
 refine sd_run 4 (zG 12 102 #[jU op] (@e_host_s op ) [] ?_);rintro v9 k9 ⟨v10_, q1_0, rfl, rfl⟩;refine ⟨rfl, jI v10_, kr, ?_⟩;refine sd_run 3 (zC 16 78 #[pT 0 0, jI v10_, jI r1, jI r2, jI r3] (@e_op_s c od rd rg sl l fix nd nr hd hr fl nx tg br tk ct slots v10_ r1 r2 r3 zo) i8_ ?_);rintro hn9 v9 k9 ⟨l11_, q2_0, q2_1, rfl, rfl⟩;refine mkG (.tuple #[]) [oB 102 (ecL 1 4 5 c.length (s1 2 od.length) (s1 3 rd.length) nd nr hd hr fl nx tg br tk ct slots (s5 8 l11_.length) (s1 7 fix.length)), (iiF c), (inF od), (inF rd), (inF rg), (inF sl), none, (inF fix), (hhF l11_)] ⟨cvr 0, cvs 1 hn9, cvs 2 hn9, cvs 3 hn9, cvs 4 hn9, cvs 5 hn9, cvs 7 hn9, hhC_c 8, ⟨⟩⟩ ?_;refine zB 15 21 ((op : Int) == 18) (fun hc3 => ?_) fun hc3 => ?_
 ·refine sd_run 6 ?_;simp only [bd] at hc3;refine zY (.tuple #[]) hX i9_ ⟨l11_, (by rw [q2_0]; rw [q1_0]; unfold aluC lowO; rw [if_pos (by simp; omega)]; simp [mkI, opI, lowC, liI]), zo, rfl, rfl⟩
 ·refine zB 7 21 ((op : Int) == 19) (fun hc4 => ?_) fun hc4 => ?_
  ·refine sd_run 6 ?_;simp only [bd] at hc3 hc4;refine zY (.tuple #[]) hX i9_ ⟨l11_, (by rw [q2_0]; rw [q1_0]; unfold aluC lowO; rw [if_pos (by simp; omega)]; simp [mkI, opI, lowC, liI]), zo, rfl, rfl⟩
  ·refine zB 7 21 ((op : Int) == 20) (fun hc5 => ?_) fun hc5 => ?_
   ·refine sd_run 6 ?_;simp only [bd] at hc3 hc4 hc5;refine zY (.tuple #[]) hX i9_ ⟨l11_, (by rw [q2_0]; rw [q1_0]; unfold aluC lowO; rw [if_pos (by simp; omega)]; simp [mkI, opI, lowC, liI]), zo, rfl, rfl⟩
   ·refine zB 6 21 ((op : Int) == 22) (fun hc6 => ?_) fun hc6 => ?_
    ·refine sd_run 3 ?_;simp only [bd] at hc3 hc4 hc5 hc6;refine zY (.tuple #[]) hX i9_ ⟨l11_, (by rw [q2_0]; rw [q1_0]; unfold aluC lowO; rw [if_pos (by simp; omega)]; simp [mkI, opI, lowC, liI]), zo, rfl, rfl⟩
    ·refine sd_run 4 (zC 20 103 #[pT 0 0, jI r1] (@e_low_s c od rd rg sl l11_ fix nd nr hd hr fl nx tg br tk ct slots r1 zo) (eM [1,2,3,4,5,6,9,8]) ?_);rintro hn9 v9 k9 ⟨l16_, q7_0, q7_1, rfl, rfl⟩;refine mkG (.tuple #[]) [oB 102 (ecL 1 4 5 c.length (s1 2 od.length) (s1 3 rd.length) nd nr hd hr fl nx tg br tk ct slots (s5 9 l16_.length) (s1 7 fix.length)), (iiF c), (inF od), (inF rd), (inF rg), (inF sl), none, (inF fix), none, (hhF l16_)] ⟨cvr 0, cvs 1 hn9, cvs 2 hn9, cvs 3 hn9, cvs 4 hn9, cvs 5 hn9, cvs 7 hn9, hhC_c 8, ⟨⟩⟩ ?_;refine sd_run 2 ?_;simp only [bd] at hc3 hc4 hc5 hc6;refine zY (.tuple #[]) hX (eM [1,2,3,4,5,6,7,8,10]) ⟨l16_, (by rw [q7_0, q2_0]; rw [q1_0]; unfold aluC lowO; rw [if_neg (by simp; omega)]; simp [mkI, opI, lowC, liI]), zo, rfl, rfl⟩
end Ls
end Go.Proofs.Ytihacfclecanjaa
