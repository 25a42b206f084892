/- Chapter 22: a step of the machine, and Run. -/
import Derived.Test.YtihacfclecanjaaQf
set_option linter.unusedVariables false
set_option linter.unusedSimpArgs false
namespace Go.Proofs.Ytihacfclecanjaa
open Go Go.Ev Go.RowKit
set_option maxRecDepth 100000
namespace Ls
theorem step_all {g0 g1 g2 g3 g4 g5 g6 g7 g8 g9 g10 g11 g12 g13 g14 g15 : Int} {M : List Int} {K : List II} {kw kc wn k : Nat} {s s1 : MS} {k1 : Nat} (hwn : M.length = wn) (hw : wn = 256) (hK : AllR K) (hlk : K.length < 100000) (hM : W32 M) (hG : U64 [g0, g1, g2, g3, g4, g5, g6, g7, g8, g9, g10, g11, g12, g13, g14, g15]) (hS : Sim s [g0, g1, g2, g3, g4, g5, g6, g7, g8, g9, g10, g11, g12, g13, g14, g15] M) (hst : stp K s k = some (s1, k1)) : SCall Try.prog T15 53 #[pT 0 0] (hq [oB 86 (mcL g0 g1 g2 g3 g4 g5 g6 g7 g8 g9 g10 g11 g12 g13 g14 g15 (sK 1 wn kw) (sK 2 K.length kc) (k : Int)), (uF M), (hhF K)]) fun v h => ∃ (h0 h1 h2 h3 h4 h5 h6 h7 h8 h9 h10 h11 h12 h13 h14 h15 : Int) (M1 : List Int), Sim s1 [h0, h1, h2, h3, h4, h5, h6, h7, h8, h9, h10, h11, h12, h13, h14, h15] M1 ∧ M1.length = wn ∧ W32 M1 ∧ U64 [h0, h1, h2, h3, h4, h5, h6, h7, h8, h9, h10, h11, h12, h13, h14, h15] ∧ v = jI 0 ∧ h = hq [oB 86 (mcL h0 h1 h2 h3 h4 h5 h6 h7 h8 h9 h10 h11 h12 h13 h14 h15 (sK 1 wn kw) (sK 2 K.length kc) (k1 : Int)), (uF M1), (hhF K)] := by
 obtain ⟨x, hx⟩ : ∃ x, K[k]? = some x := by
  unfold stp at hst;cases h : K[k]? with
  | none => rw [h] at hst; cases hst
  | some x => exact ⟨x, rfl⟩
 have hr := hK _ (List.mem_of_getElem? hx);unfold stp at hst;rw [hx] at hst;obtain ⟨op, rd, ra, rb, im⟩ := x;obtain ⟨h91, h92, h93, h94⟩ := hr_reg hr.1;have him : 0 ≤ im ∧ im < 4294967296 := hr.2;simp only at hst h91 h92 h93 h94;obtain ⟨rd, rfl⟩ := Int.eq_ofNat_of_zero_le h92.1;obtain ⟨ra, rfl⟩ := Int.eq_ofNat_of_zero_le h93.1;obtain ⟨rb, rfl⟩ := Int.eq_ofNat_of_zero_le h94.1;have era : s.R (ra : Int) = ([g0, g1, g2, g3, g4, g5, g6, g7, g8, g9, g10, g11, g12, g13, g14, g15].getD ra 0) := hS.r ra (by omega);have erb : s.R (rb : Int) = ([g0, g1, g2, g3, g4, g5, g6, g7, g8, g9, g10, g11, g12, g13, g14, g15].getD rb 0) := hS.r rb (by omega);rcases (by omega : op = 0 ∨ op = 1 ∨ (2 ≤ op ∧ op ≤ 13) ∨ op = 14 ∨ op = 15 ∨ op = 16 ∨ op = 17 ∨ op = 18 ∨ op = 19) with rfl | rfl | ho | rfl | rfl | rfl | rfl | rfl | rfl
 ·obtain ⟨rfl, rfl⟩ : s = s1 ∧ k + 1 = k1 := by simpa using hst
  exact (step_nop hwn hlk (by omega) (by omega) (by omega) him hx).mono fun v h q => ⟨g0, g1, g2, g3, g4, g5, g6, g7, g8, g9, g10, g11, g12, g13, g14, g15, M, hS, hwn, hM, hG, q.1, q.2⟩
 ·obtain ⟨rfl, rfl⟩ : ex1 (1, (rd : Int), (ra : Int), (rb : Int), im) s = s1 ∧ k + 1 = k1 := by simpa using hst
  refine (step_li hwn hlk zo zo zo him hx).mono ?_;rintro v h ⟨h0, h1, h2, h3, h4, h5, h6, h7, h8, h9, h10, h11, h12, h13, h14, h15, hset, hv, hh⟩;refine ⟨h0, h1, h2, h3, h4, h5, h6, h7, h8, h9, h10, h11, h12, h13, h14, h15, M, ?_, hwn, hM, ?_, hv, hh⟩
  ·show Sim ⟨up s.R (rd : Int) im, s.M⟩ _ _;rw [hset]; exact hS.setR rfl (by omega) im
  ·rw [hset]; exact hG.set _ ⟨him.1, by omega⟩
 ·rw [if_pos (by omega), if_neg (by omega)] at hst
  have e : ex1 (op, (rd : Int), (ra : Int), (rb : Int), im) s = ⟨up s.R (rd : Int) (hI op ([g0, g1, g2, g3, g4, g5, g6, g7, g8, g9, g10, g11, g12, g13, g14, g15].getD ra 0) ([g0, g1, g2, g3, g4, g5, g6, g7, g8, g9, g10, g11, g12, g13, g14, g15].getD rb 0)), s.M⟩ := by
   unfold ex1; rw [if_neg (by simp only; omega), if_neg (by simp only; omega), if_neg (by simp only; omega)]; simp only; rw [era, erb]
  obtain ⟨rfl, rfl⟩ : ex1 (op, (rd : Int), (ra : Int), (rb : Int), im) s = s1 ∧ k + 1 = k1 := by simpa using hst
  have hA := hG ra; have hB := hG rb;refine (step_op hwn hlk zo zo zo him hx ho hA hB).mono ?_;rintro v h ⟨h0, h1, h2, h3, h4, h5, h6, h7, h8, h9, h10, h11, h12, h13, h14, h15, hset, hv, hh⟩;refine ⟨h0, h1, h2, h3, h4, h5, h6, h7, h8, h9, h10, h11, h12, h13, h14, h15, M, ?_, hwn, hM, ?_, hv, hh⟩
  ·rw [e, hset]; exact hS.setR rfl (by omega) _
  ·rw [hset]; exact hG.set _ (hI_in hA hB)
 ·rw [if_pos (by omega), if_pos (by omega)] at hst;have ea : atI ((14 : Int), (rd : Int), (ra : Int), (rb : Int), im) s = ([g0, g1, g2, g3, g4, g5, g6, g7, g8, g9, g10, g11, g12, g13, g14, g15].getD ra 0) + im := by show s.R (ra : Int) + im = _; rw [era]
  rw [ea] at hst;split at hst
  ·rename_i hp;obtain ⟨p, hp9⟩ := Int.eq_ofNat_of_zero_le hp.1
   have e : ex1 ((14 : Int), (rd : Int), (ra : Int), (rb : Int), im) s = ⟨up s.R (rd : Int) (M.getD p 0), s.M⟩ := by
    show (⟨up s.R (rd : Int) (s.M (atI _ s)), s.M⟩ : MS) = _;rw [ea, hp9, hS.m p (by omega)]
   obtain ⟨rfl, rfl⟩ : ex1 ((14 : Int), (rd : Int), (ra : Int), (rb : Int), im) s = s1 ∧ k + 1 = k1 := by simpa using hst
   refine (step_ld hwn hlk zo zo zo him hx hp9 zo zo (hM p)).mono ?_;rintro v h ⟨h0, h1, h2, h3, h4, h5, h6, h7, h8, h9, h10, h11, h12, h13, h14, h15, hset, hv, hh⟩;refine ⟨h0, h1, h2, h3, h4, h5, h6, h7, h8, h9, h10, h11, h12, h13, h14, h15, M, ?_, hwn, hM, ?_, hv, hh⟩
   ·rw [e, hset]; exact hS.setR rfl (by omega) _
   ·rw [hset]; exact hG.set _ (by have := hM p; omega)
  ·cases hst
 ·rw [if_pos (by omega), if_pos (by omega)] at hst;have ea : atI ((15 : Int), (rd : Int), (ra : Int), (rb : Int), im) s = ([g0, g1, g2, g3, g4, g5, g6, g7, g8, g9, g10, g11, g12, g13, g14, g15].getD ra 0) + im := by show s.R (ra : Int) + im = _; rw [era]
  rw [ea] at hst;split at hst
  ·rename_i hp;obtain ⟨p, hp9⟩ := Int.eq_ofNat_of_zero_le hp.1
   have e : ex1 ((15 : Int), (rd : Int), (ra : Int), (rb : Int), im) s = ⟨s.R, up s.M (p : Int) (([g0, g1, g2, g3, g4, g5, g6, g7, g8, g9, g10, g11, g12, g13, g14, g15].getD rb 0) % 4294967296)⟩ := by
    show (⟨s.R, up s.M (atI _ s) (s.R (rb : Int) % 4294967296)⟩ : MS) = _;rw [ea, hp9, erb]
   obtain ⟨rfl, rfl⟩ : ex1 ((15 : Int), (rd : Int), (ra : Int), (rb : Int), im) s = s1 ∧ k + 1 = k1 := by simpa using hst
   refine (step_st hwn hlk zo zo zo him hx hp9 zo zo).mono ?_;rintro v h ⟨hv, hh⟩;refine ⟨g0, g1, g2, g3, g4, g5, g6, g7, g8, g9, g10, g11, g12, g13, g14, g15, _, ?_, by rw [List.length_set]; exact hwn, hM.set p zo, hG, hv, hh⟩;rw [e]; exact hS.setM (by omega) (by omega) _
  ·cases hst
 ·rw [if_neg (by omega), if_pos (by omega)] at hst;obtain ⟨n, rfl⟩ := Int.eq_ofNat_of_zero_le him.1
  by_cases hA : ([g0, g1, g2, g3, g4, g5, g6, g7, g8, g9, g10, g11, g12, g13, g14, g15].getD ra 0) = 0
  ·have hz : s.R (ra : Int) = 0 := by rw [era]; exact hA
   obtain ⟨rfl, rfl⟩ : s = s1 ∧ n = k1 := by simpa [hz] using hst
   exact (step_b16t hwn hlk (by omega) (by omega) (by omega) hx hA (by omega)).mono fun v h q => ⟨g0, g1, g2, g3, g4, g5, g6, g7, g8, g9, g10, g11, g12, g13, g14, g15, M, hS, hwn, hM, hG, q.1, q.2⟩
  ·have hz : ¬ s.R (ra : Int) = 0 := by rw [era]; exact hA
   obtain ⟨rfl, rfl⟩ : s = s1 ∧ k + 1 = k1 := by simpa [hz] using hst
   exact (step_b16n hwn hlk (by omega) (by omega) (by omega) hx hA (by omega)).mono fun v h q => ⟨g0, g1, g2, g3, g4, g5, g6, g7, g8, g9, g10, g11, g12, g13, g14, g15, M, hS, hwn, hM, hG, q.1, q.2⟩
 ·rw [if_neg (by omega), if_pos (by omega)] at hst;obtain ⟨n, rfl⟩ := Int.eq_ofNat_of_zero_le him.1
  by_cases hA : ([g0, g1, g2, g3, g4, g5, g6, g7, g8, g9, g10, g11, g12, g13, g14, g15].getD ra 0) = 0
  ·have hz : s.R (ra : Int) = 0 := by rw [era]; exact hA
   obtain ⟨rfl, rfl⟩ : s = s1 ∧ k + 1 = k1 := by simpa [hz] using hst
   exact (step_b17n hwn hlk (by omega) (by omega) (by omega) hx hA (by omega)).mono fun v h q => ⟨g0, g1, g2, g3, g4, g5, g6, g7, g8, g9, g10, g11, g12, g13, g14, g15, M, hS, hwn, hM, hG, q.1, q.2⟩
  ·have hz : ¬ s.R (ra : Int) = 0 := by rw [era]; exact hA
   obtain ⟨rfl, rfl⟩ : s = s1 ∧ n = k1 := by simpa [hz] using hst
   exact (step_b17t hwn hlk (by omega) (by omega) (by omega) hx hA (by omega)).mono fun v h q => ⟨g0, g1, g2, g3, g4, g5, g6, g7, g8, g9, g10, g11, g12, g13, g14, g15, M, hS, hwn, hM, hG, q.1, q.2⟩
 ·obtain ⟨n, rfl⟩ := Int.eq_ofNat_of_zero_le him.1;obtain ⟨rfl, rfl⟩ : s = s1 ∧ n = k1 := by simpa using hst
  exact (step_jmp hwn hlk (by omega) (by omega) (by omega) hx (by omega)).mono fun v h q => ⟨g0, g1, g2, g3, g4, g5, g6, g7, g8, g9, g10, g11, g12, g13, g14, g15, M, hS, hwn, hM, hG, q.1, q.2⟩
 ·simp at hst
theorem Steps.last {K : List II} {s t : MS} {k j : Nat} (h : Steps K 0 s k t j) : s = t ∧ k = j := h
theorem Steps.next {K : List II} {s t : MS} {k j n m : Nat} (h : Steps K (n - m) s k t j) (hm : m < n) : ∃ s1 k1, stp K s k = some (s1, k1) ∧ Steps K (n - (m + 1)) s1 k1 t j := by
 rw [show n - m = (n - (m + 1)) + 1 by omega] at h;exact h
noncomputable def f23b : Code := Try.f23.body.getD .skip
theorem hrun_s {g0 g1 g2 g3 g4 g5 g6 g7 g8 g9 g10 g11 g12 g13 g14 g15 : Int} {M : List Int} {K : List II} {kw kc wn k : Nat} {s t : MS} {n j N : Nat} {im : Int} (hwn : M.length = wn) (hw : wn = 256) (hK : AllR K) (hlk : K.length < 100000) (hM : W32 M) (hG : U64 [g0, g1, g2, g3, g4, g5, g6, g7, g8, g9, g10, g11, g12, g13, g14, g15]) (hS : Sim s [g0, g1, g2, g3, g4, g5, g6, g7, g8, g9, g10, g11, g12, g13, g14, g15] M) (hR : Steps K n s k t j) (hj : K[j]? = some (19, 0, 0, 0, im)) (hn : n < N) (hN : N < 100000) : SCall Try.prog T15 23 #[pT 0 0, jI (N : Int)] (hq [oB 86 (mcL g0 g1 g2 g3 g4 g5 g6 g7 g8 g9 g10 g11 g12 g13 g14 g15 (sK 1 wn kw) (sK 2 K.length kc) (k : Int)), (uF M), (hhF K)]) fun v h => ∃ (h0 h1 h2 h3 h4 h5 h6 h7 h8 h9 h10 h11 h12 h13 h14 h15 : Int) (M1 : List Int), Sim t [h0, h1, h2, h3, h4, h5, h6, h7, h8, h9, h10, h11, h12, h13, h14, h15] M1 ∧ M1.length = wn ∧ W32 M1 ∧ U64 [h0, h1, h2, h3, h4, h5, h6, h7, h8, h9, h10, h11, h12, h13, h14, h15] ∧ v = .tuple #[jI 1, jU im, jI (n : Int)] ∧ h = hq [oB 86 (mcL h0 h1 h2 h3 h4 h5 h6 h7 h8 h9 h10 h11 h12 h13 h14 h15 (sK 1 wn kw) (sK 2 K.length kc) (j : Int)), (uF M1), (hhF K)] := by
 refine zS Try.f23 f23b 38 3 fun X hX => ?_
 refine sd_run 14 ?_;refine sd_loop 38 (cl (cl (cr (cl (cr f23b))))) [.blk 0, .next (cr (cr f23b))] kr kr kr (fun m9 s9 => ∃ (m : Nat) (s2 : MS) (k2 : Nat) (a0 : Int) (a1 : Int) (a2 : Int) (a3 : Int) (a4 : Int) (a5 : Int) (a6 : Int) (a7 : Int) (a8 : Int) (a9 : Int) (a10 : Int) (a11 : Int) (a12 : Int) (a13 : Int) (a14 : Int) (a15 : Int) (M2 : List Int), m9 = n - m ∧ (m ≤ n) ∧ (M2.length = wn) ∧ (W32 M2) ∧ (U64 [a0, a1, a2, a3, a4, a5, a6, a7, a8, a9, a10, a11, a12, a13, a14, a15]) ∧ (Sim s2 [a0, a1, a2, a3, a4, a5, a6, a7, a8, a9, a10, a11, a12, a13, a14, a15] M2) ∧ (Steps K (n - m) s2 k2 t j) ∧ s9 = ⟨tmL [(0, pT 0 0), (1, jI (N : Int)), (7, jI (m : Int))], hq [oB 86 (mcL a0 a1 a2 a3 a4 a5 a6 a7 a8 a9 a10 a11 a12 a13 a14 a15 (sK 1 wn kw) (sK 2 K.length kc) (k2 : Int)), (uF M2), (hhF K)]⟩) (n - 0) _ e3_ hX ⟨0, s, k, g0, g1, g2, g3, g4, g5, g6, g7, g8, g9, g10, g11, g12, g13, g14, g15, M, rfl, zo, hwn, hM, hG, hS, hR, rfl⟩ ⟨zs, zt⟩ kr ?_;rintro m9 s9 ⟨m, s2, k2, a0, a1, a2, a3, a4, a5, a6, a7, a8, a9, a10, a11, a12, a13, a14, a15, M2, rfl, i1_0, i1_1, i1_2, i1_3, i1_4, i1_5, rfl⟩ R1_ hR1_
 by_cases hlt : m < n
 ·obtain ⟨s3, k3, hst9, hrest⟩ := i1_5.next hlt;refine zT 6 11 ((m : Int) < (N : Int)) (sd_run 10 (zC 15 53 #[pT 0 0] (@step_all a0 a1 a2 a3 a4 a5 a6 a7 a8 a9 a10 a11 a12 a13 a14 a15 M2 K kw kc wn k2 s2 s3 k3 i1_1 hw hK hlk i1_2 i1_3 i1_4 hst9) i3_ ?_));rintro hn9 v9 k9 ⟨h00_, h10_, h20_, h30_, h40_, h50_, h60_, h70_, h80_, h90_, h100_, h110_, h120_, h130_, h140_, h150_, M10_, q1_0, q1_1, q1_2, q1_3, rfl, rfl⟩;refine mkG (jI 0) [oB 86 (mcL h00_ h10_ h20_ h30_ h40_ h50_ h60_ h70_ h80_ h90_ h100_ h110_ h120_ h130_ h140_ h150_ (sK 1 wn kw) (sK 2 K.length kc) (k3 : Int)), (uF M10_), (hhF K)] ⟨cvr 0, uC_c 1, cvs 2 hn9, ⟨⟩⟩ ?_;refine zI 23 13 .i64 ((m + 1 : Nat) : Int) (IntKind.i64.wrap ((m : Int) + 1)) (sd_run 2 ?_);refine sd_inv R1_ kr (hR1_ _ (n - (m + 1)) _ e3_ zo ⟨m + 1, s3, k3, h00_, h10_, h20_, h30_, h40_, h50_, h60_, h70_, h80_, h90_, h100_, h110_, h120_, h130_, h140_, h150_, M10_, rfl, zo, q1_1, q1_2, q1_3, q1_0, hrest, rfl⟩ ⟨zs, zt⟩ kr)
 ·obtain rfl : n = m := by omega
  rw [Nat.sub_self] at i1_5;obtain ⟨hst9, hkj9⟩ := i1_5.last;subst hkj9;have hj9 : K[k2]? = some (19, ((0 : Nat) : Int), ((0 : Nat) : Int), ((0 : Nat) : Int), im) := hj;have him9 : 0 ≤ im ∧ im < 4294967296 := (hK _ (List.mem_of_getElem? hj)).2;have hjl := (List.getElem?_eq_some_iff.1 hj9).1;refine zT 6 11 ((n : Int) < (N : Int)) (sd_run 10 (zG 15 53 #[pT 0 0] (@step_exit a0 a1 a2 a3 a4 a5 a6 a7 a8 a9 a10 a11 a12 a13 a14 a15 M2 K kw kc wn k2 0 0 0 im i1_1 hlk (by decide) (by decide) (by decide) him9 hj9) i3_ ?_));rintro v9 k9 ⟨rfl, rfl⟩;refine ⟨rfl, jI 1, kr, ?_⟩;refine zX 34 32 (pT 2 (0 + k2 * 5)) k2 K.length (zL 1 34 (jU im) 22 2 4 108 false hhC_len hj9 (sd_run 13 ?_));refine zY (.tuple #[jI 1, jU im, jI (n : Int)]) hX i3_ ⟨a0, a1, a2, a3, a4, a5, a6, a7, a8, a9, a10, a11, a12, a13, a14, a15, M2, (hst9 ▸ i1_4), i1_1, i1_2, i1_3, rfl, rfl⟩
end Ls
end Go.Proofs.Ytihacfclecanjaa
