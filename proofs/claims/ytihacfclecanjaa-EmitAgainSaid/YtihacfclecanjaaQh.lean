/- Chapter 22: emit.Run. -/
import Derived.Test.YtihacfclecanjaaQg
import Derived.Test.YtihacfclecanjaaQc
import Derived.Test.YtihacfclecanjaaNg
set_option linter.unusedVariables false
set_option linter.unusedSimpArgs false
namespace Go.Proofs.Ytihacfclecanjaa
open Go Go.Ev Go.RowKit
set_option maxRecDepth 100000
namespace Ls
theorem simOf_M (G M : List Int) (j : Nat) : (simOf G M).M (j : Int) = M.getD j 0 := by show M.getD (j : Int).toNat 0 = _; rw [Int.toNat_natCast]
theorem laid_put {G M d r : List Int} {pc fl : Int} (hM : M.length = 256) (hd : d.length ≤ 16) (hr : r.length ≤ 16) (d32 : V32 d) (r32 : V32 r) (f15 : 0 ≤ fl ∧ fl ≤ 15) : Laid (simOf G (putM M d r pc fl)).M d r pc fl := by
 have g : ∀ j : Nat, (simOf G (putM M d r pc fl)).M (j : Int) = (putM M d r pc fl).getD j 0 := fun j => simOf_M _ _ j
 refine ⟨⟨fun i hi => ?_, fun i hi => ?_, hd, hr⟩, ?_, ?_, ?_, ?_, ?_, f15, d32, r32⟩
 ·rw [show (4 : Int) + (i : Int) = ((4 + i : Nat) : Int) by omega, g, putM_get hM, if_neg (by omega), if_neg (by omega), if_pos (by omega), show 4 + i - 4 = i by omega]
 ·rw [show (20 : Int) + (i : Int) = ((20 + i : Nat) : Int) by omega, g, putM_get hM, if_neg (by omega), if_pos (by omega), show 20 + i - 20 = i by omega]
 ·rw [show (0 : Int) = ((0 : Nat) : Int) from rfl, g, putM_get hM]; simp
 ·rw [show (1 : Int) = ((1 : Nat) : Int) from rfl, g, putM_get hM]; simp
 ·rw [show (2 : Int) = ((2 : Nat) : Int) from rfl, g, putM_get hM]; simp
 ·rw [show (3 : Int) = ((3 : Nat) : Int) from rfl, g, putM_get hM]; simp
 ·rw [show (36 : Int) = ((36 : Nat) : Int) from rfl, g, putM_get hM, if_pos rfl]
structure Out (M D R : List Int) (pc f ct : Int) : Prop where
 pc : M.getD 0 0 = pc
 fl : M.getD 1 0 = f
 nd : M.getD 2 0 = (D.length : Int)
 nr : M.getD 3 0 = (R.length : Int)
 d : takeM M 4 D.length = D
 r : takeM M 20 R.length = R
 ct : M.getD 36 0 = ct
theorem left_out {t : MS} {H M D R : List Int} {pc f ct : Int} (hS : Sim t H M) (hL : Left t.M D R pc f ct) (hD : D.length ≤ 16) (hR : R.length ≤ 16) : Out M D R pc f ct where
 pc := (hS.m 0 (by decide)).symm.trans hL.pc
 fl := (hS.m 1 (by decide)).symm.trans hL.fl
 nd := (hS.m 2 (by decide)).symm.trans hL.nd
 nr := (hS.m 3 (by decide)).symm.trans hL.nr
 d := takeM_of fun i hi => by rw [← hS.m (4 + i) (by omega), show ((4 + i : Nat) : Int) = 4 + (i : Int) by omega]; exact hL.d i hi
 r := takeM_of fun i hi => by rw [← hS.m (20 + i) (by omega), show ((20 + i : Nat) : Int) = 20 + (i : Int) by omega]; exact hL.r i hi
 ct := (hS.m 36 (by decide)).symm.trans hL.ct
structure CodeP (E : List II) (d r : List Int) (pc fl im : Int) (D R : List Int) (pc1 fl1 ct1 : Int) : Prop where
 all : AllR E
 len : E.length ≤ 4000
 run : ∀ s : MS, Laid s.M d r pc fl → ∃ t, Ends E s im t ∧ Left t.M D R pc1 fl1 ct1
 dl : D.length ≤ 16
 rl : R.length ≤ 16
 f15 : 0 ≤ fl1 ∧ fl1 ≤ 15
 im : im = 1 ∨ im = 2
theorem U64.zero : U64 [0, 0, 0, 0, 0, 0, 0, 0, 0, 0, 0, 0, 0, 0, 0, 0] := fun i => by
 rcases Nat.lt_or_ge i 16 with h | h
 ·match i, h with | 0, _ => exact ⟨Int.le_refl _, by decide⟩ | 1, _ => exact ⟨Int.le_refl _, by decide⟩ | 2, _ => exact ⟨Int.le_refl _, by decide⟩ | 3, _ => exact ⟨Int.le_refl _, by decide⟩ | 4, _ => exact ⟨Int.le_refl _, by decide⟩ | 5, _ => exact ⟨Int.le_refl _, by decide⟩ | 6, _ => exact ⟨Int.le_refl _, by decide⟩ | 7, _ => exact ⟨Int.le_refl _, by decide⟩ | 8, _ => exact ⟨Int.le_refl _, by decide⟩ | 9, _ => exact ⟨Int.le_refl _, by decide⟩ | 10, _ => exact ⟨Int.le_refl _, by decide⟩ | 11, _ => exact ⟨Int.le_refl _, by decide⟩ | 12, _ => exact ⟨Int.le_refl _, by decide⟩ | 13, _ => exact ⟨Int.le_refl _, by decide⟩ | 14, _ => exact ⟨Int.le_refl _, by decide⟩ | 15, _ => exact ⟨Int.le_refl _, by decide⟩ | n + 16, h => exact absurd h (by omega)
 ·rw [List.getD_eq_getElem?_getD, List.getElem?_eq_none (by simpa using h)]; exact ⟨Int.le_refl _, by decide⟩
theorem stOk_iff {d r : List Int} {fl : Int} (h : stOk d r fl = true) : d.length ≤ 16 ∧ r.length ≤ 16 ∧ fl ≤ 15 := by
 simpa only [stOk, Bool.and_eq_true, decide_eq_true_eq, and_assoc] using h
noncomputable def f11b : Code := Try.f11.body.getD .skip
theorem hnew_s {n : Nat} (hn : 1 ≤ n ∧ n ≤ 65536) : SCall Try.prog T15 11 #[jI (n : Int)] (hq []) fun v h => v = .tuple #[pT 0 0, jI 0] ∧ h = hq [oB 86 (mcL 0 0 0 0 0 0 0 0 0 0 0 0 0 0 0 0 (sK 1 n n) nS 0), (uF (List.replicate n 0))] := by
 refine zS Try.f11 f11b 14 0 fun X hX => ?_
 refine zF 11 5 ((n : Int) < 1) (zF 3 8 ((n : Int) > 65536) (sd_run 9 (sd_make 11 32 22 4 n 0 .i64 .i64 [jU 0] (tab uC (List.replicate n (0 : Int))) kr kr kr kr zo zo kr (tab_one (enc := uC) (a := (0 : Int)) rfl _) (sd_run 7 ?_))));refine sdZ (.tuple #[pT 1 0, jI 0]) hX (.tuple #[pT 0 0, jI 0]) [oB 86 (mcL 0 0 0 0 0 0 0 0 0 0 0 0 0 0 0 0 (sK 1 n n) nS 0), (uF (List.replicate n 0))] [some 1, some 0] ⟨brn, bk_flat (tab uC (List.replicate n (0 : Int))) kr (tab_plain uC_pl _) (congrArg (tab uC) (by rfl)), ⟨⟩⟩ ⟨rfl, rfl⟩
noncomputable def f25b : Code := Try.f25.body.getD .skip
theorem erun_s {E : List II} {q : Sx} {d dj r rj : List Int} {ro : Bool} {ka kb : Nat} {im pc1 fl1 ct1 : Int} {D1 R1 : List Int} (hC : CodeP E d r q.pc q.fl im D1 R1 pc1 fl1 ct1) (hok : stOk d r q.fl = true) (hd32 : V32 d) (hr32 : V32 r) (hpc9 : 0 ≤ q.pc ∧ q.pc < 4294967296) (hfl : 0 ≤ q.fl) : SCall Try.prog T15 25 #[(s1 0 (8 * E.length)), (stq q q.pc (sK 1 d.length ka) (sK 2 r.length kb) q.fl q.cnt)] (hq [(ebCo E false), (uCo (d ++ dj) ro), (uCo (r ++ rj) ro)]) fun v h => v = .tuple #[(stq q pc1 (s1 3 D1.length) (s1 4 R1.length) fl1 (IntKind.u64.wrap (q.cnt + ct1))), jI im] ∧ h = hq [(ebCo E false), (uCo (d ++ dj) ro), (uCo (r ++ rj) ro), (uF D1), (uF R1)] := by
 obtain ⟨hd16, hr16, hf16⟩ := stOk_iff hok;have him9 := hC.im;have hMp : W32 (putM (List.replicate 256 0) d r q.pc q.fl) := W32.put (W32.rep 256) List.length_replicate hd32 hr32 hd16 hr16 hpc9 ⟨hfl, by omega⟩;obtain ⟨t, ⟨n, j, hn, hst, hj⟩, hL⟩ := hC.run (simOf [0, 0, 0, 0, 0, 0, 0, 0, 0, 0, 0, 0, 0, 0, 0, 0] (putM (List.replicate 256 0) d r q.pc q.fl)) (laid_put List.length_replicate hd16 hr16 hd32 hr32 ⟨hfl, hf16⟩);refine zS Try.f25 f25b 55 3 fun X hX => ?_
 refine sd_run 9 (zD 14 11 #[jI 256] (@hnew_s 256 (by decide)) [] ?_);rintro v9 k9 ⟨rfl, rfl⟩;refine mkG (.tuple #[pT 5 0, jI 0]) [(ebCo E false), (uCo (d ++ dj) ro), (uCo (r ++ rj) ro), oB 35 (slq q q.pc (sK 1 d.length ka) (sK 2 r.length kb) q.fl q.cnt), oB 35 (slw 0 nS nS 0 false false false 0 0 0 0 0 false false 0 false), oB 86 (mcL 0 0 0 0 0 0 0 0 0 0 0 0 0 0 0 0 (sK 6 256 256) nS 0), (uF (List.replicate 256 0))] ⟨cvo, cvo, cvo, cvo, cvo, cvr 0, uC_c 1, ⟨⟩⟩ ?_;refine sd_run 15 (zC 22 12 #[pT 5 0, (stq q q.pc (sK 1 d.length ka) (sK 2 r.length kb) q.fl q.cnt)] (@eput_ok 0 0 0 0 0 0 0 0 0 0 0 0 0 0 0 0 0 (List.replicate 256 0) [] 256 (unk + 1) 256 q d dj r rj ro ka kb List.length_replicate rfl hok) (eM [6,7,0,2,3]) ?_);rintro hn9 v9 k9 ⟨rfl, rfl⟩;refine mkG (.bool true) [(ebCo E false), (uCo (d ++ dj) ro), (uCo (r ++ rj) ro), oB 35 (slq q q.pc (sK 1 d.length ka) (sK 2 r.length kb) q.fl q.cnt), oB 35 (slw 0 nS nS 0 false false false 0 0 0 0 0 false false 0 false), oB 86 (mcL 0 0 0 0 0 0 0 0 0 0 0 0 0 0 0 0 (sK 6 256 256) nS 0), (uF (putM (List.replicate 256 0) d r q.pc q.fl))] ⟨cvo, cvs 3 hn9, cvs 4 hn9, cvo, cvo, cvs 0 hn9, uC_c 1, ⟨⟩⟩ ?_;refine sd_run 5 (sdC 28 22 #[pT 5 0, (s1 0 (8 * E.length))] (@hload_s 0 0 0 0 0 0 0 0 0 0 0 0 0 0 0 0 0 (putM (List.replicate 256 0) d r q.pc q.fl) [] 256 (unk + 1) 256 E (by have := hC.len; omega) hC.all) (eM [6,7,0,1]) ⟨brn, uC_b, rfl, ebC_b, ⟨⟩⟩ ?_);rintro hn9 v9 k9 ⟨rfl, rfl⟩
 refine mkG (jI 0) [(ebCo E false), (uCo (d ++ dj) ro), (uCo (r ++ rj) ro), oB 35 (slq q q.pc (sK 1 d.length ka) (sK 2 r.length kb) q.fl q.cnt), oB 35 (slw 0 nS nS 0 false false false 0 0 0 0 0 false false 0 false), oB 86 (mcL 0 0 0 0 0 0 0 0 0 0 0 0 0 0 0 0 (sK 6 256 256) (s5 7 E.length) 0), (uF (putM (List.replicate 256 0) d r q.pc q.fl)), (hhF E)] ⟨cvs 3 hn9, cvo, cvo, cvo, cvo, cvr 0, cvs 1 hn9, hhC_c 4, ⟨⟩⟩ ?_;refine sd_run 10 (sdC 35 23 #[pT 5 0, jI 4096] (@hrun_s 0 0 0 0 0 0 0 0 0 0 0 0 0 0 0 0 (putM (List.replicate 256 0) d r q.pc q.fl) E 256 (unk + 5) 256 0 (simOf [0, 0, 0, 0, 0, 0, 0, 0, 0, 0, 0, 0, 0, 0, 0, 0] (putM (List.replicate 256 0) d r q.pc q.fl)) t n j 4096 im (by rw [putM_len, List.length_replicate]) rfl hC.all (by have := hC.len; omega) hMp U64.zero (sim_of _ _) hst hj hn (by decide)) (eM [6,7,8]) ⟨brn, uC_b, hhC_b, ⟨⟩⟩ ?_);rintro hn9 v9 k9 ⟨h00_, h10_, h20_, h30_, h40_, h50_, h60_, h70_, h80_, h90_, h100_, h110_, h120_, h130_, h140_, h150_, M10_, q1_0, q1_1, q1_2, q1_3, rfl, rfl⟩;refine mkG (.tuple #[jI 1, jU im, jI (n : Int)]) [(ebCo E false), (uCo (d ++ dj) ro), (uCo (r ++ rj) ro), oB 35 (slq q q.pc (sK 1 d.length ka) (sK 2 r.length kb) q.fl q.cnt), oB 35 (slw 0 nS nS 0 false false false 0 0 0 0 0 false false 0 false), oB 86 (mcL h00_ h10_ h20_ h30_ h40_ h50_ h60_ h70_ h80_ h90_ h100_ h110_ h120_ h130_ h140_ h150_ (sK 6 256 256) (s5 7 E.length) (j : Int)), (uF M10_), (hhF E)] ⟨cvo, cvo, cvo, cvo, cvo, cvr 0, uC_c 1, cvs 2 hn9, ⟨⟩⟩ ?_
 have ho := left_out q1_0 hL hC.dl hC.rl;refine sd_run 23 (zC 46 14 #[pT 5 0, (stq q q.pc (sK 1 d.length ka) (sK 2 r.length kb) q.fl q.cnt)] (@eget_as h00_ h10_ h20_ h30_ h40_ h50_ h60_ h70_ h80_ h90_ h100_ h110_ h120_ h130_ h140_ h150_ (j : Int) M10_ E 256 (unk + 5) 256 D1.length R1.length pc1 fl1 (IntKind.u64.wrap (q.cnt + ct1)) D1 R1 q d dj r rj ro ka kb q1_1 zo zo q1_2 rfl ho.nd ho.nr hC.dl hC.rl (by rw [ho.fl]; exact hC.f15.2) ho.d ho.r ho.pc ho.fl (by rw [ho.ct])) (eM [6,7,8,2,3]) ?_);rintro hn9 v9 k9 ⟨rfl, rfl⟩;refine mkG (.tuple #[(stq q pc1 (s1 8 D1.length) (s1 9 R1.length) fl1 (IntKind.u64.wrap (q.cnt + ct1))), .bool true]) [(ebCo E false), (uCo (d ++ dj) ro), (uCo (r ++ rj) ro), oB 35 (slq q q.pc (sK 1 d.length ka) (sK 2 r.length kb) q.fl q.cnt), oB 35 (slw 0 nS nS 0 false false false 0 0 0 0 0 false false 0 false), oB 86 (mcL h00_ h10_ h20_ h30_ h40_ h50_ h60_ h70_ h80_ h90_ h100_ h110_ h120_ h130_ h140_ h150_ (sK 6 256 256) (s5 7 E.length) (j : Int)), (uF M10_), (hhF E), (uF D1), (uF R1)] ⟨cvo, cvs 3 hn9, cvs 4 hn9, cvo, cvo, cvs 0 hn9, cvs 1 hn9, cvs 2 hn9, uC_c 5, uC_c 6, ⟨⟩⟩ ?_;refine zI 23 54 .i64 im (IntKind.i64.wrap im) (sd_run 5 ?_)
 refine sdZ (.tuple #[(stq q pc1 (s1 8 D1.length) (s1 9 R1.length) fl1 (IntKind.u64.wrap (q.cnt + ct1))), jI im]) hX (.tuple #[(stq q pc1 (s1 3 D1.length) (s1 4 R1.length) fl1 (IntKind.u64.wrap (q.cnt + ct1))), jI im]) [(ebCo E false), (uCo (d ++ dj) ro), (uCo (r ++ rj) ro), (uF D1), (uF R1)] (eM [1,2,3,9,10]) ⟨ebC_b, uC_b, uC_b, uC_b, uC_b, ⟨⟩⟩ ⟨rfl, rfl⟩
end Ls
end Go.Proofs.Ytihacfclecanjaa
