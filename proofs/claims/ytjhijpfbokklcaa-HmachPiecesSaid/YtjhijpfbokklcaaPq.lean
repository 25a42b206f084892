/- Chapter 4: HmachPieces answers true. -/
import Derived.Test.YtjhijpfbokklcaaPp
namespace Go.Proofs.Ytjhijpfbokklcaa
open Go Go.Ev Go.RowKit
set_option linter.unusedVariables false
set_option linter.unusedSimpArgs false
set_option maxRecDepth 100000
namespace Hm
noncomputable def f4b : Code := Try.f4.body.getD .skip
theorem f4_body : Try.f4.body = some f4b := by kernel_rfl
theorem f4_fn : T8.fn 4 = some Try.f4 := by kernel_rfl
set_option maxHeartbeats 2000000 in
theorem pieces_0 {H : Heap} {vl : Value} {L is : List Ins5} {rs : List Int} {cap : Nat} {a b : Int} (hI : InsA H vl L) (hL : ∀ i ∈ L, okA i) (hi : (L.take 30).map (madeI true) = is) (hd : Dec (codeB is) is ∧ (codeB is).length = 8 * is.length ∧ (codeB is).length ≤ 100000) (hrs : ∀ x ∈ rs, 0 ≤ x ∧ x < 18446744073709551616) (ha0 : -9223372036854775808 ≤ a) (ha1 : a ≤ 9223372036854775807) (hb0 : -9223372036854775808 ≤ b) (hb1 : b ≤ 9223372036854775807) (h0 : rs.length = 0) {pt : Option Addr} : ACall Try.prog T8 4 #[vl, (.slice pt rs.length cap), .int .i64 a, .int .i64 b] H fun r H' => r = .bool true := by
  refine acall_cf 179 (initTm 0 #[vl, (.slice pt rs.length cap), .int .i64 a, .int .i64 b]) rfl f4_fn f4_body rfl rfl ?_
  refine cf_go 7 ?_
  refine cf_call 29 8 #[.int .i64 8] H (by kernel_rfl) (by kernel_rfl) (by kernel_rfl) (new_any (n := 8) (by omega) (by omega)) ?_
  rintro _ H1_ ⟨M1, W1, rfl, maM1H1_, lM1, lW1, nnH1_, vH1_⟩
  have uH1_ := vH1_.mono (lo' := H.n) (by omega)
  have nH1_ := uH1_.n
  have kH1_ := vH1_.n
  have bM1 := maM1H1_.mn
  have bW1 := maM1H1_.wn
  refine cf_go 9 ?_
  refine cf_call 33 8 #[.int .i64 8] H1_ (by kernel_rfl) (by kernel_rfl) (by kernel_rfl) (new_any (n := 8) (by omega) (by omega)) ?_
  rintro _ H2_ ⟨M2, W2, rfl, maM2H2_, lM2, lW2, nnH2_, vH2_⟩
  have uH2_ := vH2_.mono (lo' := H.n) (by omega)
  have nH2_ := uH2_.n
  have kH2_ := vH2_.n
  have maM1H2_ := maM1H1_.keep vH2_.n vH2_.get
  have bM2 := maM2H2_.mn
  have bW2 := maM2H2_.wn
  refine cf_go 10 ?_
  refine cf_call 37 9 #[vl, .bool true] H2_ (by kernel_rfl) (by kernel_rfl) (by kernel_rfl) (made_view true (hI.keep (H' := H2_) (by omega) (fun b hb => by rw [uH2_.get _ (by omega), uH1_.get _ (by omega)])) hL hi) ?_
  rintro _ H3_ ⟨ptc, capc, rfl, grH3_, hCc, vH3_⟩
  have uH3_ := vH3_.mono (lo' := H.n) (by omega)
  have nH3_ := uH3_.n
  have kH3_ := vH3_.n
  have maM1H3_ := maM1H2_.keep vH3_.n vH3_.get
  have maM2H3_ := maM2H2_.keep vH3_.n vH3_.get
  refine cf_go 23 ?_
  refine cf_call 55 10 #[.pointer (some ⟨M1, 0, none⟩), (.slice ptc (codeB is).length capc)] H3_ (by kernel_rfl) (by kernel_rfl) (by kernel_rfl) (load_ma maM1H3_ (Gr.byts (codeB_in _) grH3_) hCc hd.2.2 (codeB_in _) hd.1 hd.2.1) ?_
  rintro _ H4_ ⟨rfl, ⟨cpM1, maM1H4_⟩, frH4_⟩
  have uH4_ := frH4_.up (lo := H.n) (M := M1) (W := W1) (by omega) (by omega) (by omega)
  have nH4_ := uH4_.n
  have kH4_ := frH4_.n
  have maM2H4_ := maM2H3_.beside maM1H3_ (by omega) (by omega) frH4_
  have grH4_ := Gr.beside grH3_ maM1H3_ frH4_
  refine cf_go 5 ?_
  refine cf_call 61 10 #[.pointer (some ⟨M2, 0, none⟩), (.slice ptc (codeB is).length capc)] H4_ (by kernel_rfl) (by kernel_rfl) (by kernel_rfl) (load_ma maM2H4_ (Gr.byts (codeB_in _) grH4_) hCc hd.2.2 (codeB_in _) hd.1 hd.2.1) ?_
  rintro _ H5_ ⟨rfl, ⟨cpM2, maM2H5_⟩, frH5_⟩
  have uH5_ := frH5_.up (lo := H.n) (M := M2) (W := W2) (by omega) (by omega) (by omega)
  have nH5_ := uH5_.n
  have kH5_ := frH5_.n
  have maM1H5_ := maM1H4_.beside maM2H4_ (by omega) (by omega) frH5_
  have grH5_ := Gr.beside grH4_ maM2H4_ frH5_
  refine cf_go 14 ?_
  refine cf_loop 179 (cl (cl (cr (cl (cr (cr (cr (cr (cr f4b))))))))) [.blk 0, .next (cr (cr (cr (cr (cr (cr f4b))))))] (by kernel_rfl) (by kernel_rfl) (by kernel_rfl) (fun m9 s9 => ∃ (k : Nat) (m1 : Mach) (H1 : Heap), m9 = rs.length - k ∧ k ≤ rs.length ∧ m1.Wd.length = 8 ∧ MA H1 62 M1 W1 cpM1 m1 ∧ MA H1 62 M2 W2 cpM2 m1 ∧ Up H.n H H1 ∧ Kn s9.tm [(1, (.slice pt rs.length cap)), (2, .int .i64 a), (3, .int .i64 b), (9, .pointer (some ⟨M1, 0, none⟩)), (11, .pointer (some ⟨M2, 0, none⟩)), (14, .int .i64 ((k : Nat) : Int))] ∧ s9.H = H1) (rs.length) ⟨0, _, H5_, by omega, by omega, rfl, maM1H5_, maM2H5_, (show Up H.n H H5_ from ⟨by omega, fun b hb => by rw [uH5_.get _ (by omega), uH4_.get _ (by omega), uH3_.get _ (by omega), uH2_.get _ (by omega), uH1_.get _ (by omega)]⟩), ⟨(by kernel_rfl), (by kernel_rfl), (by kernel_rfl), (by kernel_rfl), (by kernel_rfl), (by kernel_rfl), True.intro⟩, (by kernel_rfl)⟩ ?_
  rintro m9 s9 ⟨k, m1, H1, hm, hk, hWl, maM1, maM2, uH1, hkn, hH⟩ Rr1 hRr1
  refine cf_kn [(1, (.slice pt rs.length cap)), (2, .int .i64 a), (3, .int .i64 b), (9, .pointer (some ⟨M1, 0, none⟩)), (11, .pointer (some ⟨M2, 0, none⟩)), (14, .int .i64 ((k : Nat) : Int))] hkn hH fun tm => ?_
  have nH1 := uH1.n
  have bM1 := maM1.mn; have bW1 := maM1.wn; have bM2 := maM2.mn; have bW2 := maM2.wn
  refine cf_go 7 ?_
  refine cf_see 67 (.bool false) (see_bool (by kernel_rfl) ((decide_eq_false (by omega)) : ((decide (((k : Nat) : Int) < ((rs.length : Nat) : Int)))) = false)) ?_
  refine cf_go 15 ?_
  refine cf_ask 95 (.int .i64 (0 + a % (50 - 0 + 1))) 12 #[.int .i64 a, .int .i64 0, .int .i64 50] (by kernel_rfl) (by kernel_rfl) (orc12 a 0 50 (by simp only [inB, Bool.and_eq_true, decide_eq_true_eq]; omega)) ?_
  refine cf_see 95 (.int .i64 (a % 51)) (see_int (x := (0 + a % (50 - 0 + 1))) (by kernel_rfl) (by rw [show ((50 : Int) - 0 + 1) = 51 from rfl]; try omega)) ?_
  refine cf_go 1 ?_
  refine cf_ask 97 (.int .i64 (1 + b % (50 - 1 + 1))) 12 #[.int .i64 b, .int .i64 1, .int .i64 50] (by kernel_rfl) (by kernel_rfl) (orc12 b 1 50 (by simp only [inB, Bool.and_eq_true, decide_eq_true_eq]; omega)) ?_
  refine cf_see 97 (.int .i64 (1 + b % 50)) (see_int (x := (1 + b % (50 - 1 + 1))) (by kernel_rfl) (by rw [show ((50 : Int) - 1 + 1) = 50 from rfl]; try omega)) ?_
  refine cf_go 8 ?_
  rcases hR1 : Mach.run ((a % 51)).toNat 0 m1 with ⟨⟨w, xv, kk⟩, m2⟩
  refine cf_call 101 11 #[.pointer (some ⟨M1, 0, none⟩), .int .i64 (a % 51)] H1 (by kernel_rfl) (by kernel_rfl) (by kernel_rfl) (run_is maM1 (by omega) (by omega) hR1) ?_
  rintro _ H6_ ⟨rfl, maM1H6_, frH6_⟩
  have uH6_ := frH6_.up (lo := H.n) (M := M1) (W := W1) (by omega) (by omega) (by omega)
  have nH6_ := uH6_.n
  have kH6_ := frH6_.n
  have maM2H6_ := maM2.beside maM1 (by omega) (by omega) frH6_
  refine cf_go 13 ?_
  rcases hR2 : Mach.run ((1 + b % 50)).toNat 0 m2 with ⟨⟨v, iv, jj⟩, m3⟩
  refine cf_call 108 11 #[.pointer (some ⟨M1, 0, none⟩), .int .i64 (1 + b % 50)] H6_ (by kernel_rfl) (by kernel_rfl) (by kernel_rfl) (run_is maM1H6_ (by omega) (by omega) hR2) ?_
  rintro _ H7_ ⟨rfl, maM1H7_, frH7_⟩
  have uH7_ := frH7_.up (lo := H.n) (M := M1) (W := W1) (by omega) (by omega) (by omega)
  have nH7_ := uH7_.n
  have kH7_ := frH7_.n
  have maM2H7_ := maM2H6_.beside maM1H6_ (by omega) (by omega) frH7_
  refine cf_go 15 ?_
  refine cf_see 116 (.int .i64 ((a % 51) + (1 + b % 50))) (see_int (x := (IntKind.i64.wrap ((a % 51) + (1 + b % 50)))) (by kernel_rfl) (w64 (by omega) (by omega) (by omega))) ?_
  rcases hR3 : Mach.run (((a % 51) + (1 + b % 50))).toNat 0 m1 with ⟨⟨u, hv, gg⟩, m4⟩
  refine cf_call 117 11 #[.pointer (some ⟨M2, 0, none⟩), .int .i64 ((a % 51) + (1 + b % 50))] H7_ (by kernel_rfl) (by kernel_rfl) (by kernel_rfl) (run_is maM2H7_ (by omega) (by omega) hR3) ?_
  rintro _ H8_ ⟨rfl, maM2H8_, frH8_⟩
  have uH8_ := frH8_.up (lo := H.n) (M := M2) (W := W2) (by omega) (by omega) (by omega)
  have nH8_ := uH8_.n
  have kH8_ := frH8_.n
  have maM1H8_ := maM1H7_.beside maM2H7_ (by omega) (by omega) frH8_
  have hWl2 := run_len (s := (a % 51).toNat) (n := 0) (m := m1)
  rw [hR1] at hWl2
  have hWl3 := run_len (s := (1 + b % 50).toNat) (n := 0) (m := m2)
  rw [hR2] at hWl3
  have hWl : m3.Wd.length = 8 := by simp only at hWl2 hWl3; omega
  have hpc := pieces (n := (a % 51).toNat) (m := (1 + b % 50).toNat) (by omega) hR1 hR2 (by rw [← hR3]; congr 1; omega)
  obtain ⟨hw5, hu, hg, hh, hm⟩ := hpc
  have hm2 := hm.symm
  subst hm2
  have hk1 := run_le (a % 51).toNat 0 m1
  have hk2 := run_le (1 + b % 50).toNat 0 m2
  rw [hR1] at hk1
  rw [hR2] at hk2
  simp only at hk1 hk2
  by_cases hw : w = 5
  · skip
    refine cf_go 14 ?_
    refine cf_see 122 (.bool false) (see_bool (by kernel_rfl) ((bne_eq_false_iff_eq.2 (by omega)) : (((w : Int) != 5)) = false)) ?_
    refine cf_go 13 ?_
    refine cf_see 135 (.bool false) (see_bool (by kernel_rfl) ((bne_eq_false_iff_eq.2 (by omega)) : (((u : Int) != v)) = false)) ?_
    refine cf_go 6 ?_
    refine cf_see 141 (.int .i64 ((kk + jj : Nat) : Int)) (see_int (x := (IntKind.i64.wrap (((kk : Nat) : Int) + ((jj : Nat) : Int)))) (by kernel_rfl) (w64 (by omega) (by omega) (by omega))) ?_
    refine cf_go 1 ?_
    refine cf_see 142 (.bool false) (see_bool (by kernel_rfl) ((bne_eq_false_iff_eq.2 (by omega)) : ((((gg : Nat) : Int) != ((kk + jj : Nat) : Int))) = false)) ?_
    refine cf_go 5 ?_
    refine cf_see 147 (.bool false) (see_bool (by kernel_rfl) ((bne_eq_false_iff_eq.2 (by omega)) : (((hv : Int) != iv)) = false)) ?_
    refine cf_go 13 ?_
    refine cf_loop 179 (cl (cl (cr (cl (cr (cr (cr (cr (cr (cr (cr (cr (cr (cr (cr f4b))))))))))))))) [.blk 2, .next (cr (cr (cr (cr (cr (cr (cr (cr (cr (cr (cr (cr f4b))))))))))))] (by kernel_rfl) (by kernel_rfl) (by kernel_rfl) (fun m9 s9 => ∃ (k : Nat), m9 = 16 - k ∧ k ≤ 16 ∧ Kn s9.tm [(9, .pointer (some ⟨M1, 0, none⟩)), (11, .pointer (some ⟨M2, 0, none⟩)), (26, .int .i64 ((k : Nat) : Int))] ∧ s9.H = H8_) (16) ⟨0, by omega, by omega, ⟨(by kernel_rfl), (by kernel_rfl), (by kernel_rfl), True.intro⟩, (by kernel_rfl)⟩ ?_
    rintro m9 s9 ⟨k, hm9, hk9, hkn, hH⟩ Rr2 hRr2
    refine cf_kn [(9, .pointer (some ⟨M1, 0, none⟩)), (11, .pointer (some ⟨M2, 0, none⟩)), (26, .int .i64 ((k : Nat) : Int))] hkn hH fun tm => ?_
    by_cases hlt : k < 16
    · skip
      refine cf_go 5 ?_
      refine cf_see 150 (.bool true) (see_bool (by kernel_rfl) ((decide_eq_true (by omega)) : ((decide (((k : Nat) : Int) < 16))) = true)) ?_
      refine cf_go 11 ?_
      refine cf_call 155 18 #[.pointer (some ⟨M1, 0, none⟩), .int .i64 ((k : Nat) : Int)] H8_ (by kernel_rfl) (by kernel_rfl) (by kernel_rfl) (reg_at maM1H8_ (k := k) (by omega)) ?_
      rintro _ _ ⟨rfl, rfl⟩
      refine cf_go 2 ?_
      refine cf_call 158 18 #[.pointer (some ⟨M2, 0, none⟩), .int .i64 ((k : Nat) : Int)] H8_ (by kernel_rfl) (by kernel_rfl) (by kernel_rfl) (reg_at maM2H8_ (k := k) (by omega)) ?_
      rintro _ _ ⟨rfl, rfl⟩
      refine cf_go 1 ?_
      refine cf_see 159 (.bool false) (see_bool (by kernel_rfl) ((bne_self_eq_false _) : ((((m3.reg ((k : Nat) : Int)) : Int) != (m3.reg ((k : Nat) : Int)))) = false)) ?_
      refine cf_go 9 ?_
      refine cf_see 152 (.int .i64 ((k + 1 : Nat) : Int)) (see_int (x := (IntKind.i64.wrap (((k : Nat) : Int) + 1))) (by kernel_rfl) (w64 (by omega) (by omega) (by omega))) ?_
      refine cf_go 2 ?_
      refine cf_inv Rr2 (by kernel_rfl) (hRr2 _ ⟨16 - (k + 1), by omega, k + 1, rfl, by omega, ⟨(by kernel_rfl), (by kernel_rfl), (by kernel_rfl), True.intro⟩, (by kernel_rfl)⟩)
    · skip
      refine cf_go 5 ?_
      refine cf_see 150 (.bool false) (see_bool (by kernel_rfl) ((decide_eq_false (by omega)) : ((decide (((k : Nat) : Int) < 16))) = false)) ?_
      refine cf_go 15 ?_
      refine cf_loop 179 (cl (cl (cr (cl (cr (cr (cr (cr (cr (cr (cr (cr (cr (cr (cr (cr f4b)))))))))))))))) [.blk 4, .next (cr (cr (cr (cr (cr (cr (cr (cr (cr (cr (cr (cr (cr f4b)))))))))))))] (by kernel_rfl) (by kernel_rfl) (by kernel_rfl) (fun m9 s9 => ∃ (k : Nat), m9 = 8 - k ∧ k ≤ 8 ∧ Kn s9.tm [(9, .pointer (some ⟨M1, 0, none⟩)), (11, .pointer (some ⟨M2, 0, none⟩)), (27, .int .i64 ((k : Nat) : Int))] ∧ s9.H = H8_) (8) ⟨0, by omega, by omega, ⟨(by kernel_rfl), (by kernel_rfl), (by kernel_rfl), True.intro⟩, (by kernel_rfl)⟩ ?_
      rintro m9 s9 ⟨k, hm9, hk9, hkn, hH⟩ Rr3 hRr3
      refine cf_kn [(9, .pointer (some ⟨M1, 0, none⟩)), (11, .pointer (some ⟨M2, 0, none⟩)), (27, .int .i64 ((k : Nat) : Int))] hkn hH fun tm => ?_
      by_cases hlt : k < 8
      · skip
        refine cf_go 5 ?_
        refine cf_see 161 (.bool true) (see_bool (by kernel_rfl) ((decide_eq_true (by omega)) : ((decide (((k : Nat) : Int) < 8))) = true)) ?_
        refine cf_go 11 ?_
        refine cf_call 166 19 #[.pointer (some ⟨M1, 0, none⟩), .int .i64 ((k : Nat) : Int)] H8_ (by kernel_rfl) (by kernel_rfl) (by kernel_rfl) (word_at maM1H8_ (k := k) (by rw [hWl]; omega)) ?_
        rintro _ _ ⟨rfl, rfl⟩
        refine cf_go 2 ?_
        refine cf_call 169 19 #[.pointer (some ⟨M2, 0, none⟩), .int .i64 ((k : Nat) : Int)] H8_ (by kernel_rfl) (by kernel_rfl) (by kernel_rfl) (word_at maM2H8_ (k := k) (by rw [hWl]; omega)) ?_
        rintro _ _ ⟨rfl, rfl⟩
        refine cf_go 1 ?_
        refine cf_see 170 (.bool false) (see_bool (by kernel_rfl) ((bne_self_eq_false _) : ((((m3.word ((k : Nat) : Int)) : Int) != (m3.word ((k : Nat) : Int)))) = false)) ?_
        refine cf_go 9 ?_
        refine cf_see 163 (.int .i64 ((k + 1 : Nat) : Int)) (see_int (x := (IntKind.i64.wrap (((k : Nat) : Int) + 1))) (by kernel_rfl) (w64 (by omega) (by omega) (by omega))) ?_
        refine cf_go 2 ?_
        refine cf_inv Rr3 (by kernel_rfl) (hRr3 _ ⟨8 - (k + 1), by omega, k + 1, rfl, by omega, ⟨(by kernel_rfl), (by kernel_rfl), (by kernel_rfl), True.intro⟩, (by kernel_rfl)⟩)
      · skip
        refine cf_go 5 ?_
        refine cf_see 161 (.bool false) (see_bool (by kernel_rfl) ((decide_eq_false (by omega)) : ((decide (((k : Nat) : Int) < 8))) = false)) ?_
        refine cf_go 11 ?_
        refine cf_call 172 13 #[.pointer (some ⟨M1, 0, none⟩)] H8_ (by kernel_rfl) (by kernel_rfl) (by kernel_rfl) (at_ma maM1H8_ : ACall Try.prog T8 13 _ H8_ fun r H' => r = Value.int .i64 m3.pc ∧ H8_ = H') ?_
        rintro _ _ ⟨rfl, rfl⟩
        refine cf_go 1 ?_
        refine cf_call 174 13 #[.pointer (some ⟨M2, 0, none⟩)] H8_ (by kernel_rfl) (by kernel_rfl) (by kernel_rfl) (at_ma maM2H8_ : ACall Try.prog T8 13 _ H8_ fun r H' => r = Value.int .i64 m3.pc ∧ H8_ = H') ?_
        rintro _ _ ⟨rfl, rfl⟩
        refine cf_go 1 ?_
        refine cf_see 175 (.bool true) (see_bool (by kernel_rfl) ((beq_self_eq_true _) : (((m3.pc : Int) == m3.pc)) = true)) ?_
        refine cf_go 1 ?_
        refine cf_ask 177 (.bool true) 16 #[] (by kernel_rfl) (by kernel_rfl) (by kernel_rfl) ?_
        refine cf_go 5 ?_
        refine cf_end (.bool true) H8_ (by kernel_rfl) (by kernel_rfl) (by kernel_rfl) ?_
        rfl
  · skip
    obtain ⟨hv1, hj0⟩ := hw5 hw
    refine cf_go 14 ?_
    refine cf_see 122 (.bool true) (see_bool (by kernel_rfl) ((bne_iff_ne.2 (by omega)) : (((w : Int) != 5)) = true)) ?_
    refine cf_go 4 ?_
    refine cf_see 126 (.bool false) (see_bool (by kernel_rfl) ((bne_eq_false_iff_eq.2 (by omega)) : (((v : Int) != w)) = false)) ?_
    refine cf_go 3 ?_
    refine cf_see 129 (.bool false) (see_bool (by kernel_rfl) ((bne_eq_false_iff_eq.2 (by omega)) : ((((jj : Nat) : Int) != 0)) = false)) ?_
    refine cf_go 6 ?_
    refine cf_see 135 (.bool false) (see_bool (by kernel_rfl) ((bne_eq_false_iff_eq.2 (by omega)) : (((u : Int) != v)) = false)) ?_
    refine cf_go 6 ?_
    refine cf_see 141 (.int .i64 ((kk + jj : Nat) : Int)) (see_int (x := (IntKind.i64.wrap (((kk : Nat) : Int) + ((jj : Nat) : Int)))) (by kernel_rfl) (w64 (by omega) (by omega) (by omega))) ?_
    refine cf_go 1 ?_
    refine cf_see 142 (.bool false) (see_bool (by kernel_rfl) ((bne_eq_false_iff_eq.2 (by omega)) : ((((gg : Nat) : Int) != ((kk + jj : Nat) : Int))) = false)) ?_
    refine cf_go 5 ?_
    refine cf_see 147 (.bool false) (see_bool (by kernel_rfl) ((bne_eq_false_iff_eq.2 (by omega)) : (((hv : Int) != iv)) = false)) ?_
    refine cf_go 13 ?_
    refine cf_loop 179 (cl (cl (cr (cl (cr (cr (cr (cr (cr (cr (cr (cr (cr (cr (cr f4b))))))))))))))) [.blk 2, .next (cr (cr (cr (cr (cr (cr (cr (cr (cr (cr (cr (cr f4b))))))))))))] (by kernel_rfl) (by kernel_rfl) (by kernel_rfl) (fun m9 s9 => ∃ (k : Nat), m9 = 16 - k ∧ k ≤ 16 ∧ Kn s9.tm [(9, .pointer (some ⟨M1, 0, none⟩)), (11, .pointer (some ⟨M2, 0, none⟩)), (26, .int .i64 ((k : Nat) : Int))] ∧ s9.H = H8_) (16) ⟨0, by omega, by omega, ⟨(by kernel_rfl), (by kernel_rfl), (by kernel_rfl), True.intro⟩, (by kernel_rfl)⟩ ?_
    rintro m9 s9 ⟨k, hm9, hk9, hkn, hH⟩ Rr4 hRr4
    refine cf_kn [(9, .pointer (some ⟨M1, 0, none⟩)), (11, .pointer (some ⟨M2, 0, none⟩)), (26, .int .i64 ((k : Nat) : Int))] hkn hH fun tm => ?_
    by_cases hlt : k < 16
    · skip
      refine cf_go 5 ?_
      refine cf_see 150 (.bool true) (see_bool (by kernel_rfl) ((decide_eq_true (by omega)) : ((decide (((k : Nat) : Int) < 16))) = true)) ?_
      refine cf_go 11 ?_
      refine cf_call 155 18 #[.pointer (some ⟨M1, 0, none⟩), .int .i64 ((k : Nat) : Int)] H8_ (by kernel_rfl) (by kernel_rfl) (by kernel_rfl) (reg_at maM1H8_ (k := k) (by omega)) ?_
      rintro _ _ ⟨rfl, rfl⟩
      refine cf_go 2 ?_
      refine cf_call 158 18 #[.pointer (some ⟨M2, 0, none⟩), .int .i64 ((k : Nat) : Int)] H8_ (by kernel_rfl) (by kernel_rfl) (by kernel_rfl) (reg_at maM2H8_ (k := k) (by omega)) ?_
      rintro _ _ ⟨rfl, rfl⟩
      refine cf_go 1 ?_
      refine cf_see 159 (.bool false) (see_bool (by kernel_rfl) ((bne_self_eq_false _) : ((((m3.reg ((k : Nat) : Int)) : Int) != (m3.reg ((k : Nat) : Int)))) = false)) ?_
      refine cf_go 9 ?_
      refine cf_see 152 (.int .i64 ((k + 1 : Nat) : Int)) (see_int (x := (IntKind.i64.wrap (((k : Nat) : Int) + 1))) (by kernel_rfl) (w64 (by omega) (by omega) (by omega))) ?_
      refine cf_go 2 ?_
      refine cf_inv Rr4 (by kernel_rfl) (hRr4 _ ⟨16 - (k + 1), by omega, k + 1, rfl, by omega, ⟨(by kernel_rfl), (by kernel_rfl), (by kernel_rfl), True.intro⟩, (by kernel_rfl)⟩)
    · skip
      refine cf_go 5 ?_
      refine cf_see 150 (.bool false) (see_bool (by kernel_rfl) ((decide_eq_false (by omega)) : ((decide (((k : Nat) : Int) < 16))) = false)) ?_
      refine cf_go 15 ?_
      refine cf_loop 179 (cl (cl (cr (cl (cr (cr (cr (cr (cr (cr (cr (cr (cr (cr (cr (cr f4b)))))))))))))))) [.blk 4, .next (cr (cr (cr (cr (cr (cr (cr (cr (cr (cr (cr (cr (cr f4b)))))))))))))] (by kernel_rfl) (by kernel_rfl) (by kernel_rfl) (fun m9 s9 => ∃ (k : Nat), m9 = 8 - k ∧ k ≤ 8 ∧ Kn s9.tm [(9, .pointer (some ⟨M1, 0, none⟩)), (11, .pointer (some ⟨M2, 0, none⟩)), (27, .int .i64 ((k : Nat) : Int))] ∧ s9.H = H8_) (8) ⟨0, by omega, by omega, ⟨(by kernel_rfl), (by kernel_rfl), (by kernel_rfl), True.intro⟩, (by kernel_rfl)⟩ ?_
      rintro m9 s9 ⟨k, hm9, hk9, hkn, hH⟩ Rr5 hRr5
      refine cf_kn [(9, .pointer (some ⟨M1, 0, none⟩)), (11, .pointer (some ⟨M2, 0, none⟩)), (27, .int .i64 ((k : Nat) : Int))] hkn hH fun tm => ?_
      by_cases hlt : k < 8
      · skip
        refine cf_go 5 ?_
        refine cf_see 161 (.bool true) (see_bool (by kernel_rfl) ((decide_eq_true (by omega)) : ((decide (((k : Nat) : Int) < 8))) = true)) ?_
        refine cf_go 11 ?_
        refine cf_call 166 19 #[.pointer (some ⟨M1, 0, none⟩), .int .i64 ((k : Nat) : Int)] H8_ (by kernel_rfl) (by kernel_rfl) (by kernel_rfl) (word_at maM1H8_ (k := k) (by rw [hWl]; omega)) ?_
        rintro _ _ ⟨rfl, rfl⟩
        refine cf_go 2 ?_
        refine cf_call 169 19 #[.pointer (some ⟨M2, 0, none⟩), .int .i64 ((k : Nat) : Int)] H8_ (by kernel_rfl) (by kernel_rfl) (by kernel_rfl) (word_at maM2H8_ (k := k) (by rw [hWl]; omega)) ?_
        rintro _ _ ⟨rfl, rfl⟩
        refine cf_go 1 ?_
        refine cf_see 170 (.bool false) (see_bool (by kernel_rfl) ((bne_self_eq_false _) : ((((m3.word ((k : Nat) : Int)) : Int) != (m3.word ((k : Nat) : Int)))) = false)) ?_
        refine cf_go 9 ?_
        refine cf_see 163 (.int .i64 ((k + 1 : Nat) : Int)) (see_int (x := (IntKind.i64.wrap (((k : Nat) : Int) + 1))) (by kernel_rfl) (w64 (by omega) (by omega) (by omega))) ?_
        refine cf_go 2 ?_
        refine cf_inv Rr5 (by kernel_rfl) (hRr5 _ ⟨8 - (k + 1), by omega, k + 1, rfl, by omega, ⟨(by kernel_rfl), (by kernel_rfl), (by kernel_rfl), True.intro⟩, (by kernel_rfl)⟩)
      · skip
        refine cf_go 5 ?_
        refine cf_see 161 (.bool false) (see_bool (by kernel_rfl) ((decide_eq_false (by omega)) : ((decide (((k : Nat) : Int) < 8))) = false)) ?_
        refine cf_go 11 ?_
        refine cf_call 172 13 #[.pointer (some ⟨M1, 0, none⟩)] H8_ (by kernel_rfl) (by kernel_rfl) (by kernel_rfl) (at_ma maM1H8_ : ACall Try.prog T8 13 _ H8_ fun r H' => r = Value.int .i64 m3.pc ∧ H8_ = H') ?_
        rintro _ _ ⟨rfl, rfl⟩
        refine cf_go 1 ?_
        refine cf_call 174 13 #[.pointer (some ⟨M2, 0, none⟩)] H8_ (by kernel_rfl) (by kernel_rfl) (by kernel_rfl) (at_ma maM2H8_ : ACall Try.prog T8 13 _ H8_ fun r H' => r = Value.int .i64 m3.pc ∧ H8_ = H') ?_
        rintro _ _ ⟨rfl, rfl⟩
        refine cf_go 1 ?_
        refine cf_see 175 (.bool true) (see_bool (by kernel_rfl) ((beq_self_eq_true _) : (((m3.pc : Int) == m3.pc)) = true)) ?_
        refine cf_go 1 ?_
        refine cf_ask 177 (.bool true) 16 #[] (by kernel_rfl) (by kernel_rfl) (by kernel_rfl) ?_
        refine cf_go 5 ?_
        refine cf_end (.bool true) H8_ (by kernel_rfl) (by kernel_rfl) (by kernel_rfl) ?_
        rfl
set_option maxHeartbeats 2000000 in
theorem pieces_1 {H : Heap} {vl : Value} {L is : List Ins5} {rs : List Int} {cap : Nat} {a b : Int} (hI : InsA H vl L) (hL : ∀ i ∈ L, okA i) (hi : (L.take 30).map (madeI true) = is) (hd : Dec (codeB is) is ∧ (codeB is).length = 8 * is.length ∧ (codeB is).length ≤ 100000) (hrs : ∀ x ∈ rs, 0 ≤ x ∧ x < 18446744073709551616) (ha0 : -9223372036854775808 ≤ a) (ha1 : a ≤ 9223372036854775807) (hb0 : -9223372036854775808 ≤ b) (hb1 : b ≤ 9223372036854775807) {A off : Nat} {cells : List Value} {e : TypeId} {ro : Bool} (gA : H.get A = some ⟨cells, e, ro⟩) (hAn : A < H.n) (hA : ∀ k (h : k < rs.length), cells[off + k * 1]? = some (.int .u64 rs[k])) : ACall Try.prog T8 4 #[vl, .slice (some ⟨A, off, none⟩) rs.length cap, .int .i64 a, .int .i64 b] H fun r H' => r = .bool true := by
  refine acall_cf 179 (initTm 0 #[vl, .slice (some ⟨A, off, none⟩) rs.length cap, .int .i64 a, .int .i64 b]) rfl f4_fn f4_body rfl rfl ?_
  refine cf_go 7 ?_
  refine cf_call 29 8 #[.int .i64 8] H (by kernel_rfl) (by kernel_rfl) (by kernel_rfl) (new_any (n := 8) (by omega) (by omega)) ?_
  rintro _ H1_ ⟨M1, W1, rfl, maM1H1_, lM1, lW1, nnH1_, vH1_⟩
  have uH1_ := vH1_.mono (lo' := H.n) (by omega)
  have nH1_ := uH1_.n
  have kH1_ := vH1_.n
  have bM1 := maM1H1_.mn
  have bW1 := maM1H1_.wn
  refine cf_go 9 ?_
  refine cf_call 33 8 #[.int .i64 8] H1_ (by kernel_rfl) (by kernel_rfl) (by kernel_rfl) (new_any (n := 8) (by omega) (by omega)) ?_
  rintro _ H2_ ⟨M2, W2, rfl, maM2H2_, lM2, lW2, nnH2_, vH2_⟩
  have uH2_ := vH2_.mono (lo' := H.n) (by omega)
  have nH2_ := uH2_.n
  have kH2_ := vH2_.n
  have maM1H2_ := maM1H1_.keep vH2_.n vH2_.get
  have bM2 := maM2H2_.mn
  have bW2 := maM2H2_.wn
  refine cf_go 10 ?_
  refine cf_call 37 9 #[vl, .bool true] H2_ (by kernel_rfl) (by kernel_rfl) (by kernel_rfl) (made_view true (hI.keep (H' := H2_) (by omega) (fun b hb => by rw [uH2_.get _ (by omega), uH1_.get _ (by omega)])) hL hi) ?_
  rintro _ H3_ ⟨ptc, capc, rfl, grH3_, hCc, vH3_⟩
  have uH3_ := vH3_.mono (lo' := H.n) (by omega)
  have nH3_ := uH3_.n
  have kH3_ := vH3_.n
  have maM1H3_ := maM1H2_.keep vH3_.n vH3_.get
  have maM2H3_ := maM2H2_.keep vH3_.n vH3_.get
  refine cf_go 23 ?_
  refine cf_call 55 10 #[.pointer (some ⟨M1, 0, none⟩), (.slice ptc (codeB is).length capc)] H3_ (by kernel_rfl) (by kernel_rfl) (by kernel_rfl) (load_ma maM1H3_ (Gr.byts (codeB_in _) grH3_) hCc hd.2.2 (codeB_in _) hd.1 hd.2.1) ?_
  rintro _ H4_ ⟨rfl, ⟨cpM1, maM1H4_⟩, frH4_⟩
  have uH4_ := frH4_.up (lo := H.n) (M := M1) (W := W1) (by omega) (by omega) (by omega)
  have nH4_ := uH4_.n
  have kH4_ := frH4_.n
  have maM2H4_ := maM2H3_.beside maM1H3_ (by omega) (by omega) frH4_
  have grH4_ := Gr.beside grH3_ maM1H3_ frH4_
  refine cf_go 5 ?_
  refine cf_call 61 10 #[.pointer (some ⟨M2, 0, none⟩), (.slice ptc (codeB is).length capc)] H4_ (by kernel_rfl) (by kernel_rfl) (by kernel_rfl) (load_ma maM2H4_ (Gr.byts (codeB_in _) grH4_) hCc hd.2.2 (codeB_in _) hd.1 hd.2.1) ?_
  rintro _ H5_ ⟨rfl, ⟨cpM2, maM2H5_⟩, frH5_⟩
  have uH5_ := frH5_.up (lo := H.n) (M := M2) (W := W2) (by omega) (by omega) (by omega)
  have nH5_ := uH5_.n
  have kH5_ := frH5_.n
  have maM1H5_ := maM1H4_.beside maM2H4_ (by omega) (by omega) frH5_
  have grH5_ := Gr.beside grH4_ maM2H4_ frH5_
  refine cf_go 14 ?_
  refine cf_loop 179 (cl (cl (cr (cl (cr (cr (cr (cr (cr f4b))))))))) [.blk 0, .next (cr (cr (cr (cr (cr (cr f4b))))))] (by kernel_rfl) (by kernel_rfl) (by kernel_rfl) (fun m9 s9 => ∃ (k : Nat) (m1 : Mach) (H1 : Heap), m9 = rs.length - k ∧ k ≤ rs.length ∧ m1.Wd.length = 8 ∧ MA H1 62 M1 W1 cpM1 m1 ∧ MA H1 62 M2 W2 cpM2 m1 ∧ Up H.n H H1 ∧ Kn s9.tm [(1, .slice (some ⟨A, off, none⟩) rs.length cap), (2, .int .i64 a), (3, .int .i64 b), (9, .pointer (some ⟨M1, 0, none⟩)), (11, .pointer (some ⟨M2, 0, none⟩)), (14, .int .i64 ((k : Nat) : Int))] ∧ s9.H = H1) (rs.length) ⟨0, _, H5_, by omega, by omega, rfl, maM1H5_, maM2H5_, (show Up H.n H H5_ from ⟨by omega, fun b hb => by rw [uH5_.get _ (by omega), uH4_.get _ (by omega), uH3_.get _ (by omega), uH2_.get _ (by omega), uH1_.get _ (by omega)]⟩), ⟨(by kernel_rfl), (by kernel_rfl), (by kernel_rfl), (by kernel_rfl), (by kernel_rfl), (by kernel_rfl), True.intro⟩, (by kernel_rfl)⟩ ?_
  rintro m9 s9 ⟨k, m1, H1, hm, hk, hWl, maM1, maM2, uH1, hkn, hH⟩ Rr1 hRr1
  refine cf_kn [(1, .slice (some ⟨A, off, none⟩) rs.length cap), (2, .int .i64 a), (3, .int .i64 b), (9, .pointer (some ⟨M1, 0, none⟩)), (11, .pointer (some ⟨M2, 0, none⟩)), (14, .int .i64 ((k : Nat) : Int))] hkn hH fun tm => ?_
  have nH1 := uH1.n
  have bM1 := maM1.mn; have bW1 := maM1.wn; have bM2 := maM2.mn; have bW2 := maM2.wn
  by_cases hlt : k < rs.length ∧ k < 16
  · skip
    obtain ⟨x, hx⟩ : ∃ x, rs[k]? = some x := ⟨_, List.getElem?_eq_getElem hlt.1⟩
    obtain ⟨x0, x1⟩ := hrs _ (List.mem_of_getElem? hx)
    have cx : cells[off + k * 1]? = some (.int .u64 x) := by have := hA k hlt.1; rw [List.getElem?_eq_getElem hlt.1] at hx; rw [this, Option.some.inj hx]
    refine cf_go 7 ?_
    refine cf_see 67 (.bool true) (see_bool (by kernel_rfl) ((decide_eq_true (by omega)) : ((decide (((k : Nat) : Int) < ((rs.length : Nat) : Int)))) = true)) ?_
    refine cf_go 3 ?_
    refine cf_see 70 (.bool true) (see_bool (by kernel_rfl) ((decide_eq_true (by omega)) : ((decide (((k : Nat) : Int) < 16))) = true)) ?_
    refine cf_go 14 ?_
    refine cf_val 78 (.pointer (some ⟨A, off + k * 1, none⟩)) H1 (by kernel_rfl) ((by kernel_rfl : _ = val (bif (k : Nat).blt rs.length then some (.pointer (some ⟨A, off + k * 1, none⟩)) else none) H1).trans (by rw [show (k : Nat).blt rs.length = true from (by rw [blt_dec]; simp only [decide_eq_true_eq]; omega)]; rfl)) ?_
    have gH1A : H1.get (A) = some ⟨cells, e, ro⟩ := by rw [uH1.get _ (by omega)]; exact gA
    refine cf_val 79 (.int .u64 x) H1 (by kernel_rfl) ((by kernel_rfl : _ = val (aload T8 42 (.pointer (some ⟨A, off + k * 1, none⟩)) H1) H1).trans (val_of ((aload_at gH1A).trans (aloadC_cellB (n := 1) (by kernel_rfl) (by kernel_rfl) cx)))) ?_
    refine cf_go 1 ?_
    refine cf_see 80 (.int .u64 (x % 7)) (see_int (x := Int.tmod x 7) (by kernel_rfl) (Int.tmod_eq_emod_of_nonneg (by omega))) ?_
    refine cf_call 81 17 #[.pointer (some ⟨M1, 0, none⟩), .int .i64 ((k : Nat) : Int), .int .u64 (x % 7)] H1 (by kernel_rfl) (by kernel_rfl) (by kernel_rfl) (setreg_ma maM1 (k := k) (v := (x % 7)) (by omega) (by omega) (by omega)) ?_
    rintro _ H6_ ⟨rfl, maM1H6_, frH6_⟩
    have uH6_ := frH6_.up (lo := H.n) (M := M1) (W := W1) (by omega) (by omega) (by omega)
    have nH6_ := uH6_.n
    have kH6_ := frH6_.n
    have maM2H6_ := maM2.beside maM1 (by omega) (by omega) frH6_
    refine cf_go 6 ?_
    refine cf_val 88 (.pointer (some ⟨A, off + k * 1, none⟩)) H6_ (by kernel_rfl) ((by kernel_rfl : _ = val (bif (k : Nat).blt rs.length then some (.pointer (some ⟨A, off + k * 1, none⟩)) else none) H6_).trans (by rw [show (k : Nat).blt rs.length = true from (by rw [blt_dec]; simp only [decide_eq_true_eq]; omega)]; rfl)) ?_
    have gH6_A : H6_.get (A) = some ⟨cells, e, ro⟩ := by rw [uH6_.get _ (by omega)]; exact gH1A
    refine cf_val 89 (.int .u64 x) H6_ (by kernel_rfl) ((by kernel_rfl : _ = val (aload T8 42 (.pointer (some ⟨A, off + k * 1, none⟩)) H6_) H6_).trans (val_of ((aload_at gH6_A).trans (aloadC_cellB (n := 1) (by kernel_rfl) (by kernel_rfl) cx)))) ?_
    refine cf_go 1 ?_
    refine cf_see 90 (.int .u64 (x % 7)) (see_int (x := Int.tmod x 7) (by kernel_rfl) (Int.tmod_eq_emod_of_nonneg (by omega))) ?_
    refine cf_call 91 17 #[.pointer (some ⟨M2, 0, none⟩), .int .i64 ((k : Nat) : Int), .int .u64 (x % 7)] H6_ (by kernel_rfl) (by kernel_rfl) (by kernel_rfl) (setreg_ma maM2H6_ (k := k) (v := (x % 7)) (by omega) (by omega) (by omega)) ?_
    rintro _ H7_ ⟨rfl, maM2H7_, frH7_⟩
    have uH7_ := frH7_.up (lo := H.n) (M := M2) (W := W2) (by omega) (by omega) (by omega)
    have nH7_ := uH7_.n
    have kH7_ := frH7_.n
    have maM1H7_ := maM1H6_.beside maM2H6_ (by omega) (by omega) frH7_
    refine cf_go 11 ?_
    refine cf_see 73 (.int .i64 ((k + 1 : Nat) : Int)) (see_int (x := (IntKind.i64.wrap (((k : Nat) : Int) + 1))) (by kernel_rfl) (w64 (by omega) (by omega) (by omega))) ?_
    refine cf_go 2 ?_
    refine cf_inv Rr1 (by kernel_rfl) (hRr1 _ ⟨rs.length - (k + 1), by omega, k + 1, ⟨m1.R.set k (x % 7), m1.Wd, m1.C, m1.pc⟩, H7_, rfl, by omega, hWl, maM1H7_, maM2H7_, (show Up H.n H H7_ from ⟨by omega, fun b hb => by rw [uH7_.get _ (by omega), uH6_.get _ (by omega), uH1.get _ (by omega)]⟩), ⟨(by kernel_rfl), (by kernel_rfl), (by kernel_rfl), (by kernel_rfl), (by kernel_rfl), (by kernel_rfl), True.intro⟩, (by kernel_rfl)⟩)
  · skip
    by_cases hlt2 : k < rs.length
    · skip
      refine cf_go 7 ?_
      refine cf_see 67 (.bool true) (see_bool (by kernel_rfl) ((decide_eq_true (by omega)) : ((decide (((k : Nat) : Int) < ((rs.length : Nat) : Int)))) = true)) ?_
      refine cf_go 3 ?_
      refine cf_see 70 (.bool false) (see_bool (by kernel_rfl) ((decide_eq_false (by omega)) : ((decide (((k : Nat) : Int) < 16))) = false)) ?_
      refine cf_go 12 ?_
      refine cf_ask 95 (.int .i64 (0 + a % (50 - 0 + 1))) 12 #[.int .i64 a, .int .i64 0, .int .i64 50] (by kernel_rfl) (by kernel_rfl) (orc12 a 0 50 (by simp only [inB, Bool.and_eq_true, decide_eq_true_eq]; omega)) ?_
      refine cf_see 95 (.int .i64 (a % 51)) (see_int (x := (0 + a % (50 - 0 + 1))) (by kernel_rfl) (by rw [show ((50 : Int) - 0 + 1) = 51 from rfl]; try omega)) ?_
      refine cf_go 1 ?_
      refine cf_ask 97 (.int .i64 (1 + b % (50 - 1 + 1))) 12 #[.int .i64 b, .int .i64 1, .int .i64 50] (by kernel_rfl) (by kernel_rfl) (orc12 b 1 50 (by simp only [inB, Bool.and_eq_true, decide_eq_true_eq]; omega)) ?_
      refine cf_see 97 (.int .i64 (1 + b % 50)) (see_int (x := (1 + b % (50 - 1 + 1))) (by kernel_rfl) (by rw [show ((50 : Int) - 1 + 1) = 50 from rfl]; try omega)) ?_
      refine cf_go 8 ?_
      rcases hR1 : Mach.run ((a % 51)).toNat 0 m1 with ⟨⟨w, xv, kk⟩, m2⟩
      refine cf_call 101 11 #[.pointer (some ⟨M1, 0, none⟩), .int .i64 (a % 51)] H1 (by kernel_rfl) (by kernel_rfl) (by kernel_rfl) (run_is maM1 (by omega) (by omega) hR1) ?_
      rintro _ H8_ ⟨rfl, maM1H8_, frH8_⟩
      have uH8_ := frH8_.up (lo := H.n) (M := M1) (W := W1) (by omega) (by omega) (by omega)
      have nH8_ := uH8_.n
      have kH8_ := frH8_.n
      have maM2H8_ := maM2.beside maM1 (by omega) (by omega) frH8_
      refine cf_go 13 ?_
      rcases hR2 : Mach.run ((1 + b % 50)).toNat 0 m2 with ⟨⟨v, iv, jj⟩, m3⟩
      refine cf_call 108 11 #[.pointer (some ⟨M1, 0, none⟩), .int .i64 (1 + b % 50)] H8_ (by kernel_rfl) (by kernel_rfl) (by kernel_rfl) (run_is maM1H8_ (by omega) (by omega) hR2) ?_
      rintro _ H9_ ⟨rfl, maM1H9_, frH9_⟩
      have uH9_ := frH9_.up (lo := H.n) (M := M1) (W := W1) (by omega) (by omega) (by omega)
      have nH9_ := uH9_.n
      have kH9_ := frH9_.n
      have maM2H9_ := maM2H8_.beside maM1H8_ (by omega) (by omega) frH9_
      refine cf_go 15 ?_
      refine cf_see 116 (.int .i64 ((a % 51) + (1 + b % 50))) (see_int (x := (IntKind.i64.wrap ((a % 51) + (1 + b % 50)))) (by kernel_rfl) (w64 (by omega) (by omega) (by omega))) ?_
      rcases hR3 : Mach.run (((a % 51) + (1 + b % 50))).toNat 0 m1 with ⟨⟨u, hv, gg⟩, m4⟩
      refine cf_call 117 11 #[.pointer (some ⟨M2, 0, none⟩), .int .i64 ((a % 51) + (1 + b % 50))] H9_ (by kernel_rfl) (by kernel_rfl) (by kernel_rfl) (run_is maM2H9_ (by omega) (by omega) hR3) ?_
      rintro _ H10_ ⟨rfl, maM2H10_, frH10_⟩
      have uH10_ := frH10_.up (lo := H.n) (M := M2) (W := W2) (by omega) (by omega) (by omega)
      have nH10_ := uH10_.n
      have kH10_ := frH10_.n
      have maM1H10_ := maM1H9_.beside maM2H9_ (by omega) (by omega) frH10_
      have hWl2 := run_len (s := (a % 51).toNat) (n := 0) (m := m1)
      rw [hR1] at hWl2
      have hWl3 := run_len (s := (1 + b % 50).toNat) (n := 0) (m := m2)
      rw [hR2] at hWl3
      have hWl : m3.Wd.length = 8 := by simp only at hWl2 hWl3; omega
      have hpc := pieces (n := (a % 51).toNat) (m := (1 + b % 50).toNat) (by omega) hR1 hR2 (by rw [← hR3]; congr 1; omega)
      obtain ⟨hw5, hu, hg, hh, hm⟩ := hpc
      have hm2 := hm.symm
      subst hm2
      have hk1 := run_le (a % 51).toNat 0 m1
      have hk2 := run_le (1 + b % 50).toNat 0 m2
      rw [hR1] at hk1
      rw [hR2] at hk2
      simp only at hk1 hk2
      by_cases hw : w = 5
      · skip
        refine cf_go 14 ?_
        refine cf_see 122 (.bool false) (see_bool (by kernel_rfl) ((bne_eq_false_iff_eq.2 (by omega)) : (((w : Int) != 5)) = false)) ?_
        refine cf_go 13 ?_
        refine cf_see 135 (.bool false) (see_bool (by kernel_rfl) ((bne_eq_false_iff_eq.2 (by omega)) : (((u : Int) != v)) = false)) ?_
        refine cf_go 6 ?_
        refine cf_see 141 (.int .i64 ((kk + jj : Nat) : Int)) (see_int (x := (IntKind.i64.wrap (((kk : Nat) : Int) + ((jj : Nat) : Int)))) (by kernel_rfl) (w64 (by omega) (by omega) (by omega))) ?_
        refine cf_go 1 ?_
        refine cf_see 142 (.bool false) (see_bool (by kernel_rfl) ((bne_eq_false_iff_eq.2 (by omega)) : ((((gg : Nat) : Int) != ((kk + jj : Nat) : Int))) = false)) ?_
        refine cf_go 5 ?_
        refine cf_see 147 (.bool false) (see_bool (by kernel_rfl) ((bne_eq_false_iff_eq.2 (by omega)) : (((hv : Int) != iv)) = false)) ?_
        refine cf_go 13 ?_
        refine cf_loop 179 (cl (cl (cr (cl (cr (cr (cr (cr (cr (cr (cr (cr (cr (cr (cr f4b))))))))))))))) [.blk 2, .next (cr (cr (cr (cr (cr (cr (cr (cr (cr (cr (cr (cr f4b))))))))))))] (by kernel_rfl) (by kernel_rfl) (by kernel_rfl) (fun m9 s9 => ∃ (k : Nat), m9 = 16 - k ∧ k ≤ 16 ∧ Kn s9.tm [(9, .pointer (some ⟨M1, 0, none⟩)), (11, .pointer (some ⟨M2, 0, none⟩)), (26, .int .i64 ((k : Nat) : Int))] ∧ s9.H = H10_) (16) ⟨0, by omega, by omega, ⟨(by kernel_rfl), (by kernel_rfl), (by kernel_rfl), True.intro⟩, (by kernel_rfl)⟩ ?_
        rintro m9 s9 ⟨k, hm9, hk9, hkn, hH⟩ Rr2 hRr2
        refine cf_kn [(9, .pointer (some ⟨M1, 0, none⟩)), (11, .pointer (some ⟨M2, 0, none⟩)), (26, .int .i64 ((k : Nat) : Int))] hkn hH fun tm => ?_
        by_cases hlt : k < 16
        · skip
          refine cf_go 5 ?_
          refine cf_see 150 (.bool true) (see_bool (by kernel_rfl) ((decide_eq_true (by omega)) : ((decide (((k : Nat) : Int) < 16))) = true)) ?_
          refine cf_go 11 ?_
          refine cf_call 155 18 #[.pointer (some ⟨M1, 0, none⟩), .int .i64 ((k : Nat) : Int)] H10_ (by kernel_rfl) (by kernel_rfl) (by kernel_rfl) (reg_at maM1H10_ (k := k) (by omega)) ?_
          rintro _ _ ⟨rfl, rfl⟩
          refine cf_go 2 ?_
          refine cf_call 158 18 #[.pointer (some ⟨M2, 0, none⟩), .int .i64 ((k : Nat) : Int)] H10_ (by kernel_rfl) (by kernel_rfl) (by kernel_rfl) (reg_at maM2H10_ (k := k) (by omega)) ?_
          rintro _ _ ⟨rfl, rfl⟩
          refine cf_go 1 ?_
          refine cf_see 159 (.bool false) (see_bool (by kernel_rfl) ((bne_self_eq_false _) : ((((m3.reg ((k : Nat) : Int)) : Int) != (m3.reg ((k : Nat) : Int)))) = false)) ?_
          refine cf_go 9 ?_
          refine cf_see 152 (.int .i64 ((k + 1 : Nat) : Int)) (see_int (x := (IntKind.i64.wrap (((k : Nat) : Int) + 1))) (by kernel_rfl) (w64 (by omega) (by omega) (by omega))) ?_
          refine cf_go 2 ?_
          refine cf_inv Rr2 (by kernel_rfl) (hRr2 _ ⟨16 - (k + 1), by omega, k + 1, rfl, by omega, ⟨(by kernel_rfl), (by kernel_rfl), (by kernel_rfl), True.intro⟩, (by kernel_rfl)⟩)
        · skip
          refine cf_go 5 ?_
          refine cf_see 150 (.bool false) (see_bool (by kernel_rfl) ((decide_eq_false (by omega)) : ((decide (((k : Nat) : Int) < 16))) = false)) ?_
          refine cf_go 15 ?_
          refine cf_loop 179 (cl (cl (cr (cl (cr (cr (cr (cr (cr (cr (cr (cr (cr (cr (cr (cr f4b)))))))))))))))) [.blk 4, .next (cr (cr (cr (cr (cr (cr (cr (cr (cr (cr (cr (cr (cr f4b)))))))))))))] (by kernel_rfl) (by kernel_rfl) (by kernel_rfl) (fun m9 s9 => ∃ (k : Nat), m9 = 8 - k ∧ k ≤ 8 ∧ Kn s9.tm [(9, .pointer (some ⟨M1, 0, none⟩)), (11, .pointer (some ⟨M2, 0, none⟩)), (27, .int .i64 ((k : Nat) : Int))] ∧ s9.H = H10_) (8) ⟨0, by omega, by omega, ⟨(by kernel_rfl), (by kernel_rfl), (by kernel_rfl), True.intro⟩, (by kernel_rfl)⟩ ?_
          rintro m9 s9 ⟨k, hm9, hk9, hkn, hH⟩ Rr3 hRr3
          refine cf_kn [(9, .pointer (some ⟨M1, 0, none⟩)), (11, .pointer (some ⟨M2, 0, none⟩)), (27, .int .i64 ((k : Nat) : Int))] hkn hH fun tm => ?_
          by_cases hlt : k < 8
          · skip
            refine cf_go 5 ?_
            refine cf_see 161 (.bool true) (see_bool (by kernel_rfl) ((decide_eq_true (by omega)) : ((decide (((k : Nat) : Int) < 8))) = true)) ?_
            refine cf_go 11 ?_
            refine cf_call 166 19 #[.pointer (some ⟨M1, 0, none⟩), .int .i64 ((k : Nat) : Int)] H10_ (by kernel_rfl) (by kernel_rfl) (by kernel_rfl) (word_at maM1H10_ (k := k) (by rw [hWl]; omega)) ?_
            rintro _ _ ⟨rfl, rfl⟩
            refine cf_go 2 ?_
            refine cf_call 169 19 #[.pointer (some ⟨M2, 0, none⟩), .int .i64 ((k : Nat) : Int)] H10_ (by kernel_rfl) (by kernel_rfl) (by kernel_rfl) (word_at maM2H10_ (k := k) (by rw [hWl]; omega)) ?_
            rintro _ _ ⟨rfl, rfl⟩
            refine cf_go 1 ?_
            refine cf_see 170 (.bool false) (see_bool (by kernel_rfl) ((bne_self_eq_false _) : ((((m3.word ((k : Nat) : Int)) : Int) != (m3.word ((k : Nat) : Int)))) = false)) ?_
            refine cf_go 9 ?_
            refine cf_see 163 (.int .i64 ((k + 1 : Nat) : Int)) (see_int (x := (IntKind.i64.wrap (((k : Nat) : Int) + 1))) (by kernel_rfl) (w64 (by omega) (by omega) (by omega))) ?_
            refine cf_go 2 ?_
            refine cf_inv Rr3 (by kernel_rfl) (hRr3 _ ⟨8 - (k + 1), by omega, k + 1, rfl, by omega, ⟨(by kernel_rfl), (by kernel_rfl), (by kernel_rfl), True.intro⟩, (by kernel_rfl)⟩)
          · skip
            refine cf_go 5 ?_
            refine cf_see 161 (.bool false) (see_bool (by kernel_rfl) ((decide_eq_false (by omega)) : ((decide (((k : Nat) : Int) < 8))) = false)) ?_
            refine cf_go 11 ?_
            refine cf_call 172 13 #[.pointer (some ⟨M1, 0, none⟩)] H10_ (by kernel_rfl) (by kernel_rfl) (by kernel_rfl) (at_ma maM1H10_ : ACall Try.prog T8 13 _ H10_ fun r H' => r = Value.int .i64 m3.pc ∧ H10_ = H') ?_
            rintro _ _ ⟨rfl, rfl⟩
            refine cf_go 1 ?_
            refine cf_call 174 13 #[.pointer (some ⟨M2, 0, none⟩)] H10_ (by kernel_rfl) (by kernel_rfl) (by kernel_rfl) (at_ma maM2H10_ : ACall Try.prog T8 13 _ H10_ fun r H' => r = Value.int .i64 m3.pc ∧ H10_ = H') ?_
            rintro _ _ ⟨rfl, rfl⟩
            refine cf_go 1 ?_
            refine cf_see 175 (.bool true) (see_bool (by kernel_rfl) ((beq_self_eq_true _) : (((m3.pc : Int) == m3.pc)) = true)) ?_
            refine cf_go 1 ?_
            refine cf_ask 177 (.bool true) 16 #[] (by kernel_rfl) (by kernel_rfl) (by kernel_rfl) ?_
            refine cf_go 5 ?_
            refine cf_end (.bool true) H10_ (by kernel_rfl) (by kernel_rfl) (by kernel_rfl) ?_
            rfl
      · skip
        obtain ⟨hv1, hj0⟩ := hw5 hw
        refine cf_go 14 ?_
        refine cf_see 122 (.bool true) (see_bool (by kernel_rfl) ((bne_iff_ne.2 (by omega)) : (((w : Int) != 5)) = true)) ?_
        refine cf_go 4 ?_
        refine cf_see 126 (.bool false) (see_bool (by kernel_rfl) ((bne_eq_false_iff_eq.2 (by omega)) : (((v : Int) != w)) = false)) ?_
        refine cf_go 3 ?_
        refine cf_see 129 (.bool false) (see_bool (by kernel_rfl) ((bne_eq_false_iff_eq.2 (by omega)) : ((((jj : Nat) : Int) != 0)) = false)) ?_
        refine cf_go 6 ?_
        refine cf_see 135 (.bool false) (see_bool (by kernel_rfl) ((bne_eq_false_iff_eq.2 (by omega)) : (((u : Int) != v)) = false)) ?_
        refine cf_go 6 ?_
        refine cf_see 141 (.int .i64 ((kk + jj : Nat) : Int)) (see_int (x := (IntKind.i64.wrap (((kk : Nat) : Int) + ((jj : Nat) : Int)))) (by kernel_rfl) (w64 (by omega) (by omega) (by omega))) ?_
        refine cf_go 1 ?_
        refine cf_see 142 (.bool false) (see_bool (by kernel_rfl) ((bne_eq_false_iff_eq.2 (by omega)) : ((((gg : Nat) : Int) != ((kk + jj : Nat) : Int))) = false)) ?_
        refine cf_go 5 ?_
        refine cf_see 147 (.bool false) (see_bool (by kernel_rfl) ((bne_eq_false_iff_eq.2 (by omega)) : (((hv : Int) != iv)) = false)) ?_
        refine cf_go 13 ?_
        refine cf_loop 179 (cl (cl (cr (cl (cr (cr (cr (cr (cr (cr (cr (cr (cr (cr (cr f4b))))))))))))))) [.blk 2, .next (cr (cr (cr (cr (cr (cr (cr (cr (cr (cr (cr (cr f4b))))))))))))] (by kernel_rfl) (by kernel_rfl) (by kernel_rfl) (fun m9 s9 => ∃ (k : Nat), m9 = 16 - k ∧ k ≤ 16 ∧ Kn s9.tm [(9, .pointer (some ⟨M1, 0, none⟩)), (11, .pointer (some ⟨M2, 0, none⟩)), (26, .int .i64 ((k : Nat) : Int))] ∧ s9.H = H10_) (16) ⟨0, by omega, by omega, ⟨(by kernel_rfl), (by kernel_rfl), (by kernel_rfl), True.intro⟩, (by kernel_rfl)⟩ ?_
        rintro m9 s9 ⟨k, hm9, hk9, hkn, hH⟩ Rr4 hRr4
        refine cf_kn [(9, .pointer (some ⟨M1, 0, none⟩)), (11, .pointer (some ⟨M2, 0, none⟩)), (26, .int .i64 ((k : Nat) : Int))] hkn hH fun tm => ?_
        by_cases hlt : k < 16
        · skip
          refine cf_go 5 ?_
          refine cf_see 150 (.bool true) (see_bool (by kernel_rfl) ((decide_eq_true (by omega)) : ((decide (((k : Nat) : Int) < 16))) = true)) ?_
          refine cf_go 11 ?_
          refine cf_call 155 18 #[.pointer (some ⟨M1, 0, none⟩), .int .i64 ((k : Nat) : Int)] H10_ (by kernel_rfl) (by kernel_rfl) (by kernel_rfl) (reg_at maM1H10_ (k := k) (by omega)) ?_
          rintro _ _ ⟨rfl, rfl⟩
          refine cf_go 2 ?_
          refine cf_call 158 18 #[.pointer (some ⟨M2, 0, none⟩), .int .i64 ((k : Nat) : Int)] H10_ (by kernel_rfl) (by kernel_rfl) (by kernel_rfl) (reg_at maM2H10_ (k := k) (by omega)) ?_
          rintro _ _ ⟨rfl, rfl⟩
          refine cf_go 1 ?_
          refine cf_see 159 (.bool false) (see_bool (by kernel_rfl) ((bne_self_eq_false _) : ((((m3.reg ((k : Nat) : Int)) : Int) != (m3.reg ((k : Nat) : Int)))) = false)) ?_
          refine cf_go 9 ?_
          refine cf_see 152 (.int .i64 ((k + 1 : Nat) : Int)) (see_int (x := (IntKind.i64.wrap (((k : Nat) : Int) + 1))) (by kernel_rfl) (w64 (by omega) (by omega) (by omega))) ?_
          refine cf_go 2 ?_
          refine cf_inv Rr4 (by kernel_rfl) (hRr4 _ ⟨16 - (k + 1), by omega, k + 1, rfl, by omega, ⟨(by kernel_rfl), (by kernel_rfl), (by kernel_rfl), True.intro⟩, (by kernel_rfl)⟩)
        · skip
          refine cf_go 5 ?_
          refine cf_see 150 (.bool false) (see_bool (by kernel_rfl) ((decide_eq_false (by omega)) : ((decide (((k : Nat) : Int) < 16))) = false)) ?_
          refine cf_go 15 ?_
          refine cf_loop 179 (cl (cl (cr (cl (cr (cr (cr (cr (cr (cr (cr (cr (cr (cr (cr (cr f4b)))))))))))))))) [.blk 4, .next (cr (cr (cr (cr (cr (cr (cr (cr (cr (cr (cr (cr (cr f4b)))))))))))))] (by kernel_rfl) (by kernel_rfl) (by kernel_rfl) (fun m9 s9 => ∃ (k : Nat), m9 = 8 - k ∧ k ≤ 8 ∧ Kn s9.tm [(9, .pointer (some ⟨M1, 0, none⟩)), (11, .pointer (some ⟨M2, 0, none⟩)), (27, .int .i64 ((k : Nat) : Int))] ∧ s9.H = H10_) (8) ⟨0, by omega, by omega, ⟨(by kernel_rfl), (by kernel_rfl), (by kernel_rfl), True.intro⟩, (by kernel_rfl)⟩ ?_
          rintro m9 s9 ⟨k, hm9, hk9, hkn, hH⟩ Rr5 hRr5
          refine cf_kn [(9, .pointer (some ⟨M1, 0, none⟩)), (11, .pointer (some ⟨M2, 0, none⟩)), (27, .int .i64 ((k : Nat) : Int))] hkn hH fun tm => ?_
          by_cases hlt : k < 8
          · skip
            refine cf_go 5 ?_
            refine cf_see 161 (.bool true) (see_bool (by kernel_rfl) ((decide_eq_true (by omega)) : ((decide (((k : Nat) : Int) < 8))) = true)) ?_
            refine cf_go 11 ?_
            refine cf_call 166 19 #[.pointer (some ⟨M1, 0, none⟩), .int .i64 ((k : Nat) : Int)] H10_ (by kernel_rfl) (by kernel_rfl) (by kernel_rfl) (word_at maM1H10_ (k := k) (by rw [hWl]; omega)) ?_
            rintro _ _ ⟨rfl, rfl⟩
            refine cf_go 2 ?_
            refine cf_call 169 19 #[.pointer (some ⟨M2, 0, none⟩), .int .i64 ((k : Nat) : Int)] H10_ (by kernel_rfl) (by kernel_rfl) (by kernel_rfl) (word_at maM2H10_ (k := k) (by rw [hWl]; omega)) ?_
            rintro _ _ ⟨rfl, rfl⟩
            refine cf_go 1 ?_
            refine cf_see 170 (.bool false) (see_bool (by kernel_rfl) ((bne_self_eq_false _) : ((((m3.word ((k : Nat) : Int)) : Int) != (m3.word ((k : Nat) : Int)))) = false)) ?_
            refine cf_go 9 ?_
            refine cf_see 163 (.int .i64 ((k + 1 : Nat) : Int)) (see_int (x := (IntKind.i64.wrap (((k : Nat) : Int) + 1))) (by kernel_rfl) (w64 (by omega) (by omega) (by omega))) ?_
            refine cf_go 2 ?_
            refine cf_inv Rr5 (by kernel_rfl) (hRr5 _ ⟨8 - (k + 1), by omega, k + 1, rfl, by omega, ⟨(by kernel_rfl), (by kernel_rfl), (by kernel_rfl), True.intro⟩, (by kernel_rfl)⟩)
          · skip
            refine cf_go 5 ?_
            refine cf_see 161 (.bool false) (see_bool (by kernel_rfl) ((decide_eq_false (by omega)) : ((decide (((k : Nat) : Int) < 8))) = false)) ?_
            refine cf_go 11 ?_
            refine cf_call 172 13 #[.pointer (some ⟨M1, 0, none⟩)] H10_ (by kernel_rfl) (by kernel_rfl) (by kernel_rfl) (at_ma maM1H10_ : ACall Try.prog T8 13 _ H10_ fun r H' => r = Value.int .i64 m3.pc ∧ H10_ = H') ?_
            rintro _ _ ⟨rfl, rfl⟩
            refine cf_go 1 ?_
            refine cf_call 174 13 #[.pointer (some ⟨M2, 0, none⟩)] H10_ (by kernel_rfl) (by kernel_rfl) (by kernel_rfl) (at_ma maM2H10_ : ACall Try.prog T8 13 _ H10_ fun r H' => r = Value.int .i64 m3.pc ∧ H10_ = H') ?_
            rintro _ _ ⟨rfl, rfl⟩
            refine cf_go 1 ?_
            refine cf_see 175 (.bool true) (see_bool (by kernel_rfl) ((beq_self_eq_true _) : (((m3.pc : Int) == m3.pc)) = true)) ?_
            refine cf_go 1 ?_
            refine cf_ask 177 (.bool true) 16 #[] (by kernel_rfl) (by kernel_rfl) (by kernel_rfl) ?_
            refine cf_go 5 ?_
            refine cf_end (.bool true) H10_ (by kernel_rfl) (by kernel_rfl) (by kernel_rfl) ?_
            rfl
    · skip
      refine cf_go 7 ?_
      refine cf_see 67 (.bool false) (see_bool (by kernel_rfl) ((decide_eq_false (by omega)) : ((decide (((k : Nat) : Int) < ((rs.length : Nat) : Int)))) = false)) ?_
      refine cf_go 15 ?_
      refine cf_ask 95 (.int .i64 (0 + a % (50 - 0 + 1))) 12 #[.int .i64 a, .int .i64 0, .int .i64 50] (by kernel_rfl) (by kernel_rfl) (orc12 a 0 50 (by simp only [inB, Bool.and_eq_true, decide_eq_true_eq]; omega)) ?_
      refine cf_see 95 (.int .i64 (a % 51)) (see_int (x := (0 + a % (50 - 0 + 1))) (by kernel_rfl) (by rw [show ((50 : Int) - 0 + 1) = 51 from rfl]; try omega)) ?_
      refine cf_go 1 ?_
      refine cf_ask 97 (.int .i64 (1 + b % (50 - 1 + 1))) 12 #[.int .i64 b, .int .i64 1, .int .i64 50] (by kernel_rfl) (by kernel_rfl) (orc12 b 1 50 (by simp only [inB, Bool.and_eq_true, decide_eq_true_eq]; omega)) ?_
      refine cf_see 97 (.int .i64 (1 + b % 50)) (see_int (x := (1 + b % (50 - 1 + 1))) (by kernel_rfl) (by rw [show ((50 : Int) - 1 + 1) = 50 from rfl]; try omega)) ?_
      refine cf_go 8 ?_
      rcases hR1 : Mach.run ((a % 51)).toNat 0 m1 with ⟨⟨w, xv, kk⟩, m2⟩
      refine cf_call 101 11 #[.pointer (some ⟨M1, 0, none⟩), .int .i64 (a % 51)] H1 (by kernel_rfl) (by kernel_rfl) (by kernel_rfl) (run_is maM1 (by omega) (by omega) hR1) ?_
      rintro _ H11_ ⟨rfl, maM1H11_, frH11_⟩
      have uH11_ := frH11_.up (lo := H.n) (M := M1) (W := W1) (by omega) (by omega) (by omega)
      have nH11_ := uH11_.n
      have kH11_ := frH11_.n
      have maM2H11_ := maM2.beside maM1 (by omega) (by omega) frH11_
      refine cf_go 13 ?_
      rcases hR2 : Mach.run ((1 + b % 50)).toNat 0 m2 with ⟨⟨v, iv, jj⟩, m3⟩
      refine cf_call 108 11 #[.pointer (some ⟨M1, 0, none⟩), .int .i64 (1 + b % 50)] H11_ (by kernel_rfl) (by kernel_rfl) (by kernel_rfl) (run_is maM1H11_ (by omega) (by omega) hR2) ?_
      rintro _ H12_ ⟨rfl, maM1H12_, frH12_⟩
      have uH12_ := frH12_.up (lo := H.n) (M := M1) (W := W1) (by omega) (by omega) (by omega)
      have nH12_ := uH12_.n
      have kH12_ := frH12_.n
      have maM2H12_ := maM2H11_.beside maM1H11_ (by omega) (by omega) frH12_
      refine cf_go 15 ?_
      refine cf_see 116 (.int .i64 ((a % 51) + (1 + b % 50))) (see_int (x := (IntKind.i64.wrap ((a % 51) + (1 + b % 50)))) (by kernel_rfl) (w64 (by omega) (by omega) (by omega))) ?_
      rcases hR3 : Mach.run (((a % 51) + (1 + b % 50))).toNat 0 m1 with ⟨⟨u, hv, gg⟩, m4⟩
      refine cf_call 117 11 #[.pointer (some ⟨M2, 0, none⟩), .int .i64 ((a % 51) + (1 + b % 50))] H12_ (by kernel_rfl) (by kernel_rfl) (by kernel_rfl) (run_is maM2H12_ (by omega) (by omega) hR3) ?_
      rintro _ H13_ ⟨rfl, maM2H13_, frH13_⟩
      have uH13_ := frH13_.up (lo := H.n) (M := M2) (W := W2) (by omega) (by omega) (by omega)
      have nH13_ := uH13_.n
      have kH13_ := frH13_.n
      have maM1H13_ := maM1H12_.beside maM2H12_ (by omega) (by omega) frH13_
      have hWl2 := run_len (s := (a % 51).toNat) (n := 0) (m := m1)
      rw [hR1] at hWl2
      have hWl3 := run_len (s := (1 + b % 50).toNat) (n := 0) (m := m2)
      rw [hR2] at hWl3
      have hWl : m3.Wd.length = 8 := by simp only at hWl2 hWl3; omega
      have hpc := pieces (n := (a % 51).toNat) (m := (1 + b % 50).toNat) (by omega) hR1 hR2 (by rw [← hR3]; congr 1; omega)
      obtain ⟨hw5, hu, hg, hh, hm⟩ := hpc
      have hm2 := hm.symm
      subst hm2
      have hk1 := run_le (a % 51).toNat 0 m1
      have hk2 := run_le (1 + b % 50).toNat 0 m2
      rw [hR1] at hk1
      rw [hR2] at hk2
      simp only at hk1 hk2
      by_cases hw : w = 5
      · skip
        refine cf_go 14 ?_
        refine cf_see 122 (.bool false) (see_bool (by kernel_rfl) ((bne_eq_false_iff_eq.2 (by omega)) : (((w : Int) != 5)) = false)) ?_
        refine cf_go 13 ?_
        refine cf_see 135 (.bool false) (see_bool (by kernel_rfl) ((bne_eq_false_iff_eq.2 (by omega)) : (((u : Int) != v)) = false)) ?_
        refine cf_go 6 ?_
        refine cf_see 141 (.int .i64 ((kk + jj : Nat) : Int)) (see_int (x := (IntKind.i64.wrap (((kk : Nat) : Int) + ((jj : Nat) : Int)))) (by kernel_rfl) (w64 (by omega) (by omega) (by omega))) ?_
        refine cf_go 1 ?_
        refine cf_see 142 (.bool false) (see_bool (by kernel_rfl) ((bne_eq_false_iff_eq.2 (by omega)) : ((((gg : Nat) : Int) != ((kk + jj : Nat) : Int))) = false)) ?_
        refine cf_go 5 ?_
        refine cf_see 147 (.bool false) (see_bool (by kernel_rfl) ((bne_eq_false_iff_eq.2 (by omega)) : (((hv : Int) != iv)) = false)) ?_
        refine cf_go 13 ?_
        refine cf_loop 179 (cl (cl (cr (cl (cr (cr (cr (cr (cr (cr (cr (cr (cr (cr (cr f4b))))))))))))))) [.blk 2, .next (cr (cr (cr (cr (cr (cr (cr (cr (cr (cr (cr (cr f4b))))))))))))] (by kernel_rfl) (by kernel_rfl) (by kernel_rfl) (fun m9 s9 => ∃ (k : Nat), m9 = 16 - k ∧ k ≤ 16 ∧ Kn s9.tm [(9, .pointer (some ⟨M1, 0, none⟩)), (11, .pointer (some ⟨M2, 0, none⟩)), (26, .int .i64 ((k : Nat) : Int))] ∧ s9.H = H13_) (16) ⟨0, by omega, by omega, ⟨(by kernel_rfl), (by kernel_rfl), (by kernel_rfl), True.intro⟩, (by kernel_rfl)⟩ ?_
        rintro m9 s9 ⟨k, hm9, hk9, hkn, hH⟩ Rr6 hRr6
        refine cf_kn [(9, .pointer (some ⟨M1, 0, none⟩)), (11, .pointer (some ⟨M2, 0, none⟩)), (26, .int .i64 ((k : Nat) : Int))] hkn hH fun tm => ?_
        by_cases hlt : k < 16
        · skip
          refine cf_go 5 ?_
          refine cf_see 150 (.bool true) (see_bool (by kernel_rfl) ((decide_eq_true (by omega)) : ((decide (((k : Nat) : Int) < 16))) = true)) ?_
          refine cf_go 11 ?_
          refine cf_call 155 18 #[.pointer (some ⟨M1, 0, none⟩), .int .i64 ((k : Nat) : Int)] H13_ (by kernel_rfl) (by kernel_rfl) (by kernel_rfl) (reg_at maM1H13_ (k := k) (by omega)) ?_
          rintro _ _ ⟨rfl, rfl⟩
          refine cf_go 2 ?_
          refine cf_call 158 18 #[.pointer (some ⟨M2, 0, none⟩), .int .i64 ((k : Nat) : Int)] H13_ (by kernel_rfl) (by kernel_rfl) (by kernel_rfl) (reg_at maM2H13_ (k := k) (by omega)) ?_
          rintro _ _ ⟨rfl, rfl⟩
          refine cf_go 1 ?_
          refine cf_see 159 (.bool false) (see_bool (by kernel_rfl) ((bne_self_eq_false _) : ((((m3.reg ((k : Nat) : Int)) : Int) != (m3.reg ((k : Nat) : Int)))) = false)) ?_
          refine cf_go 9 ?_
          refine cf_see 152 (.int .i64 ((k + 1 : Nat) : Int)) (see_int (x := (IntKind.i64.wrap (((k : Nat) : Int) + 1))) (by kernel_rfl) (w64 (by omega) (by omega) (by omega))) ?_
          refine cf_go 2 ?_
          refine cf_inv Rr6 (by kernel_rfl) (hRr6 _ ⟨16 - (k + 1), by omega, k + 1, rfl, by omega, ⟨(by kernel_rfl), (by kernel_rfl), (by kernel_rfl), True.intro⟩, (by kernel_rfl)⟩)
        · skip
          refine cf_go 5 ?_
          refine cf_see 150 (.bool false) (see_bool (by kernel_rfl) ((decide_eq_false (by omega)) : ((decide (((k : Nat) : Int) < 16))) = false)) ?_
          refine cf_go 15 ?_
          refine cf_loop 179 (cl (cl (cr (cl (cr (cr (cr (cr (cr (cr (cr (cr (cr (cr (cr (cr f4b)))))))))))))))) [.blk 4, .next (cr (cr (cr (cr (cr (cr (cr (cr (cr (cr (cr (cr (cr f4b)))))))))))))] (by kernel_rfl) (by kernel_rfl) (by kernel_rfl) (fun m9 s9 => ∃ (k : Nat), m9 = 8 - k ∧ k ≤ 8 ∧ Kn s9.tm [(9, .pointer (some ⟨M1, 0, none⟩)), (11, .pointer (some ⟨M2, 0, none⟩)), (27, .int .i64 ((k : Nat) : Int))] ∧ s9.H = H13_) (8) ⟨0, by omega, by omega, ⟨(by kernel_rfl), (by kernel_rfl), (by kernel_rfl), True.intro⟩, (by kernel_rfl)⟩ ?_
          rintro m9 s9 ⟨k, hm9, hk9, hkn, hH⟩ Rr7 hRr7
          refine cf_kn [(9, .pointer (some ⟨M1, 0, none⟩)), (11, .pointer (some ⟨M2, 0, none⟩)), (27, .int .i64 ((k : Nat) : Int))] hkn hH fun tm => ?_
          by_cases hlt : k < 8
          · skip
            refine cf_go 5 ?_
            refine cf_see 161 (.bool true) (see_bool (by kernel_rfl) ((decide_eq_true (by omega)) : ((decide (((k : Nat) : Int) < 8))) = true)) ?_
            refine cf_go 11 ?_
            refine cf_call 166 19 #[.pointer (some ⟨M1, 0, none⟩), .int .i64 ((k : Nat) : Int)] H13_ (by kernel_rfl) (by kernel_rfl) (by kernel_rfl) (word_at maM1H13_ (k := k) (by rw [hWl]; omega)) ?_
            rintro _ _ ⟨rfl, rfl⟩
            refine cf_go 2 ?_
            refine cf_call 169 19 #[.pointer (some ⟨M2, 0, none⟩), .int .i64 ((k : Nat) : Int)] H13_ (by kernel_rfl) (by kernel_rfl) (by kernel_rfl) (word_at maM2H13_ (k := k) (by rw [hWl]; omega)) ?_
            rintro _ _ ⟨rfl, rfl⟩
            refine cf_go 1 ?_
            refine cf_see 170 (.bool false) (see_bool (by kernel_rfl) ((bne_self_eq_false _) : ((((m3.word ((k : Nat) : Int)) : Int) != (m3.word ((k : Nat) : Int)))) = false)) ?_
            refine cf_go 9 ?_
            refine cf_see 163 (.int .i64 ((k + 1 : Nat) : Int)) (see_int (x := (IntKind.i64.wrap (((k : Nat) : Int) + 1))) (by kernel_rfl) (w64 (by omega) (by omega) (by omega))) ?_
            refine cf_go 2 ?_
            refine cf_inv Rr7 (by kernel_rfl) (hRr7 _ ⟨8 - (k + 1), by omega, k + 1, rfl, by omega, ⟨(by kernel_rfl), (by kernel_rfl), (by kernel_rfl), True.intro⟩, (by kernel_rfl)⟩)
          · skip
            refine cf_go 5 ?_
            refine cf_see 161 (.bool false) (see_bool (by kernel_rfl) ((decide_eq_false (by omega)) : ((decide (((k : Nat) : Int) < 8))) = false)) ?_
            refine cf_go 11 ?_
            refine cf_call 172 13 #[.pointer (some ⟨M1, 0, none⟩)] H13_ (by kernel_rfl) (by kernel_rfl) (by kernel_rfl) (at_ma maM1H13_ : ACall Try.prog T8 13 _ H13_ fun r H' => r = Value.int .i64 m3.pc ∧ H13_ = H') ?_
            rintro _ _ ⟨rfl, rfl⟩
            refine cf_go 1 ?_
            refine cf_call 174 13 #[.pointer (some ⟨M2, 0, none⟩)] H13_ (by kernel_rfl) (by kernel_rfl) (by kernel_rfl) (at_ma maM2H13_ : ACall Try.prog T8 13 _ H13_ fun r H' => r = Value.int .i64 m3.pc ∧ H13_ = H') ?_
            rintro _ _ ⟨rfl, rfl⟩
            refine cf_go 1 ?_
            refine cf_see 175 (.bool true) (see_bool (by kernel_rfl) ((beq_self_eq_true _) : (((m3.pc : Int) == m3.pc)) = true)) ?_
            refine cf_go 1 ?_
            refine cf_ask 177 (.bool true) 16 #[] (by kernel_rfl) (by kernel_rfl) (by kernel_rfl) ?_
            refine cf_go 5 ?_
            refine cf_end (.bool true) H13_ (by kernel_rfl) (by kernel_rfl) (by kernel_rfl) ?_
            rfl
      · skip
        obtain ⟨hv1, hj0⟩ := hw5 hw
        refine cf_go 14 ?_
        refine cf_see 122 (.bool true) (see_bool (by kernel_rfl) ((bne_iff_ne.2 (by omega)) : (((w : Int) != 5)) = true)) ?_
        refine cf_go 4 ?_
        refine cf_see 126 (.bool false) (see_bool (by kernel_rfl) ((bne_eq_false_iff_eq.2 (by omega)) : (((v : Int) != w)) = false)) ?_
        refine cf_go 3 ?_
        refine cf_see 129 (.bool false) (see_bool (by kernel_rfl) ((bne_eq_false_iff_eq.2 (by omega)) : ((((jj : Nat) : Int) != 0)) = false)) ?_
        refine cf_go 6 ?_
        refine cf_see 135 (.bool false) (see_bool (by kernel_rfl) ((bne_eq_false_iff_eq.2 (by omega)) : (((u : Int) != v)) = false)) ?_
        refine cf_go 6 ?_
        refine cf_see 141 (.int .i64 ((kk + jj : Nat) : Int)) (see_int (x := (IntKind.i64.wrap (((kk : Nat) : Int) + ((jj : Nat) : Int)))) (by kernel_rfl) (w64 (by omega) (by omega) (by omega))) ?_
        refine cf_go 1 ?_
        refine cf_see 142 (.bool false) (see_bool (by kernel_rfl) ((bne_eq_false_iff_eq.2 (by omega)) : ((((gg : Nat) : Int) != ((kk + jj : Nat) : Int))) = false)) ?_
        refine cf_go 5 ?_
        refine cf_see 147 (.bool false) (see_bool (by kernel_rfl) ((bne_eq_false_iff_eq.2 (by omega)) : (((hv : Int) != iv)) = false)) ?_
        refine cf_go 13 ?_
        refine cf_loop 179 (cl (cl (cr (cl (cr (cr (cr (cr (cr (cr (cr (cr (cr (cr (cr f4b))))))))))))))) [.blk 2, .next (cr (cr (cr (cr (cr (cr (cr (cr (cr (cr (cr (cr f4b))))))))))))] (by kernel_rfl) (by kernel_rfl) (by kernel_rfl) (fun m9 s9 => ∃ (k : Nat), m9 = 16 - k ∧ k ≤ 16 ∧ Kn s9.tm [(9, .pointer (some ⟨M1, 0, none⟩)), (11, .pointer (some ⟨M2, 0, none⟩)), (26, .int .i64 ((k : Nat) : Int))] ∧ s9.H = H13_) (16) ⟨0, by omega, by omega, ⟨(by kernel_rfl), (by kernel_rfl), (by kernel_rfl), True.intro⟩, (by kernel_rfl)⟩ ?_
        rintro m9 s9 ⟨k, hm9, hk9, hkn, hH⟩ Rr8 hRr8
        refine cf_kn [(9, .pointer (some ⟨M1, 0, none⟩)), (11, .pointer (some ⟨M2, 0, none⟩)), (26, .int .i64 ((k : Nat) : Int))] hkn hH fun tm => ?_
        by_cases hlt : k < 16
        · skip
          refine cf_go 5 ?_
          refine cf_see 150 (.bool true) (see_bool (by kernel_rfl) ((decide_eq_true (by omega)) : ((decide (((k : Nat) : Int) < 16))) = true)) ?_
          refine cf_go 11 ?_
          refine cf_call 155 18 #[.pointer (some ⟨M1, 0, none⟩), .int .i64 ((k : Nat) : Int)] H13_ (by kernel_rfl) (by kernel_rfl) (by kernel_rfl) (reg_at maM1H13_ (k := k) (by omega)) ?_
          rintro _ _ ⟨rfl, rfl⟩
          refine cf_go 2 ?_
          refine cf_call 158 18 #[.pointer (some ⟨M2, 0, none⟩), .int .i64 ((k : Nat) : Int)] H13_ (by kernel_rfl) (by kernel_rfl) (by kernel_rfl) (reg_at maM2H13_ (k := k) (by omega)) ?_
          rintro _ _ ⟨rfl, rfl⟩
          refine cf_go 1 ?_
          refine cf_see 159 (.bool false) (see_bool (by kernel_rfl) ((bne_self_eq_false _) : ((((m3.reg ((k : Nat) : Int)) : Int) != (m3.reg ((k : Nat) : Int)))) = false)) ?_
          refine cf_go 9 ?_
          refine cf_see 152 (.int .i64 ((k + 1 : Nat) : Int)) (see_int (x := (IntKind.i64.wrap (((k : Nat) : Int) + 1))) (by kernel_rfl) (w64 (by omega) (by omega) (by omega))) ?_
          refine cf_go 2 ?_
          refine cf_inv Rr8 (by kernel_rfl) (hRr8 _ ⟨16 - (k + 1), by omega, k + 1, rfl, by omega, ⟨(by kernel_rfl), (by kernel_rfl), (by kernel_rfl), True.intro⟩, (by kernel_rfl)⟩)
        · skip
          refine cf_go 5 ?_
          refine cf_see 150 (.bool false) (see_bool (by kernel_rfl) ((decide_eq_false (by omega)) : ((decide (((k : Nat) : Int) < 16))) = false)) ?_
          refine cf_go 15 ?_
          refine cf_loop 179 (cl (cl (cr (cl (cr (cr (cr (cr (cr (cr (cr (cr (cr (cr (cr (cr f4b)))))))))))))))) [.blk 4, .next (cr (cr (cr (cr (cr (cr (cr (cr (cr (cr (cr (cr (cr f4b)))))))))))))] (by kernel_rfl) (by kernel_rfl) (by kernel_rfl) (fun m9 s9 => ∃ (k : Nat), m9 = 8 - k ∧ k ≤ 8 ∧ Kn s9.tm [(9, .pointer (some ⟨M1, 0, none⟩)), (11, .pointer (some ⟨M2, 0, none⟩)), (27, .int .i64 ((k : Nat) : Int))] ∧ s9.H = H13_) (8) ⟨0, by omega, by omega, ⟨(by kernel_rfl), (by kernel_rfl), (by kernel_rfl), True.intro⟩, (by kernel_rfl)⟩ ?_
          rintro m9 s9 ⟨k, hm9, hk9, hkn, hH⟩ Rr9 hRr9
          refine cf_kn [(9, .pointer (some ⟨M1, 0, none⟩)), (11, .pointer (some ⟨M2, 0, none⟩)), (27, .int .i64 ((k : Nat) : Int))] hkn hH fun tm => ?_
          by_cases hlt : k < 8
          · skip
            refine cf_go 5 ?_
            refine cf_see 161 (.bool true) (see_bool (by kernel_rfl) ((decide_eq_true (by omega)) : ((decide (((k : Nat) : Int) < 8))) = true)) ?_
            refine cf_go 11 ?_
            refine cf_call 166 19 #[.pointer (some ⟨M1, 0, none⟩), .int .i64 ((k : Nat) : Int)] H13_ (by kernel_rfl) (by kernel_rfl) (by kernel_rfl) (word_at maM1H13_ (k := k) (by rw [hWl]; omega)) ?_
            rintro _ _ ⟨rfl, rfl⟩
            refine cf_go 2 ?_
            refine cf_call 169 19 #[.pointer (some ⟨M2, 0, none⟩), .int .i64 ((k : Nat) : Int)] H13_ (by kernel_rfl) (by kernel_rfl) (by kernel_rfl) (word_at maM2H13_ (k := k) (by rw [hWl]; omega)) ?_
            rintro _ _ ⟨rfl, rfl⟩
            refine cf_go 1 ?_
            refine cf_see 170 (.bool false) (see_bool (by kernel_rfl) ((bne_self_eq_false _) : ((((m3.word ((k : Nat) : Int)) : Int) != (m3.word ((k : Nat) : Int)))) = false)) ?_
            refine cf_go 9 ?_
            refine cf_see 163 (.int .i64 ((k + 1 : Nat) : Int)) (see_int (x := (IntKind.i64.wrap (((k : Nat) : Int) + 1))) (by kernel_rfl) (w64 (by omega) (by omega) (by omega))) ?_
            refine cf_go 2 ?_
            refine cf_inv Rr9 (by kernel_rfl) (hRr9 _ ⟨8 - (k + 1), by omega, k + 1, rfl, by omega, ⟨(by kernel_rfl), (by kernel_rfl), (by kernel_rfl), True.intro⟩, (by kernel_rfl)⟩)
          · skip
            refine cf_go 5 ?_
            refine cf_see 161 (.bool false) (see_bool (by kernel_rfl) ((decide_eq_false (by omega)) : ((decide (((k : Nat) : Int) < 8))) = false)) ?_
            refine cf_go 11 ?_
            refine cf_call 172 13 #[.pointer (some ⟨M1, 0, none⟩)] H13_ (by kernel_rfl) (by kernel_rfl) (by kernel_rfl) (at_ma maM1H13_ : ACall Try.prog T8 13 _ H13_ fun r H' => r = Value.int .i64 m3.pc ∧ H13_ = H') ?_
            rintro _ _ ⟨rfl, rfl⟩
            refine cf_go 1 ?_
            refine cf_call 174 13 #[.pointer (some ⟨M2, 0, none⟩)] H13_ (by kernel_rfl) (by kernel_rfl) (by kernel_rfl) (at_ma maM2H13_ : ACall Try.prog T8 13 _ H13_ fun r H' => r = Value.int .i64 m3.pc ∧ H13_ = H') ?_
            rintro _ _ ⟨rfl, rfl⟩
            refine cf_go 1 ?_
            refine cf_see 175 (.bool true) (see_bool (by kernel_rfl) ((beq_self_eq_true _) : (((m3.pc : Int) == m3.pc)) = true)) ?_
            refine cf_go 1 ?_
            refine cf_ask 177 (.bool true) 16 #[] (by kernel_rfl) (by kernel_rfl) (by kernel_rfl) ?_
            refine cf_go 5 ?_
            refine cf_end (.bool true) H13_ (by kernel_rfl) (by kernel_rfl) (by kernel_rfl) ?_
            rfl
theorem pieces_run {H : Heap} {vl v : Value} {L : List Ins5} {rs : List Int} {a b : Int} (hI : InsA H vl L) (hL : ∀ i ∈ L, okA i) (hN : NumsA H .u64 v rs) (hrs : ∀ x ∈ rs, 0 ≤ x ∧ x < 18446744073709551616) (ha : -9223372036854775808 ≤ a ∧ a ≤ 9223372036854775807) (hb : -9223372036854775808 ≤ b ∧ b ≤ 9223372036854775807) : ACall Try.prog T8 4 #[vl, v, .int .i64 a, .int .i64 b] H fun r H' => r = .bool true := by
  rcases hN.at_ with ⟨cap, rfl, rfl⟩ | ⟨A, off, cap, cells, e, ro, rfl, g, hA, hc⟩
  · exact pieces_0 (rs := []) hI hL rfl (made_is_dec hL rfl) hrs ha.1 ha.2 hb.1 hb.2 rfl
  · exact pieces_1 hI hL rfl (made_is_dec hL rfl) hrs ha.1 ha.2 hb.1 hb.2 g hA hc
end Hm
end Go.Proofs.Ytjhijpfbokklcaa
