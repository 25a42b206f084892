/- Chapter 4: HmachPlays answers true. -/
import Derived.Test.YtjhijpfbokklcaaPp
namespace Go.Proofs.Ytjhijpfbokklcaa
open Go Go.Ev Go.RowKit
set_option linter.unusedVariables false
set_option linter.unusedSimpArgs false
set_option maxRecDepth 100000
namespace Hm
theorem MA.store_reg {H : Heap} {ty : TypeId} {M W : Nat} {cp : Value} {m : Mach} (h : MA H ty M W cp m) {k : Nat} {v : Int} (hk : k < 16) (h0 : 0 ≤ v) (h1 : v < 18446744073709551616) :
    MA (H.put M ⟨macC (m.R.set k v) W m.Wd.length cp m.pc, ty, false⟩) ty M W cp ⟨m.R.set k v, m.Wd, m.C, m.pc⟩ ∧ Fr2 H (H.put M ⟨macC (m.R.set k v) W m.Wd.length cp m.pc, ty, false⟩) M W := by
  have hmw := h.mw
  have fr : ∀ b, b < H.n → b ≠ M → b ≠ W → (H.put M ⟨macC (m.R.set k v) W m.Wd.length cp m.pc, ty, false⟩).get b = H.get b := fun b _ h1 _ => by rw [Heap.get_put, if_neg h1]
  have hn : H.n ≤ (H.put M ⟨macC (m.R.set k v) W m.Wd.length cp m.pc, ty, false⟩).n := by rw [Heap.n_put]; exact Nat.le_refl _
  exact ⟨h.of ⟨hn, (Heap.get_put _ _ _ _).trans (if_pos rfl), by rw [Heap.get_put, if_neg (fun e => hmw e.symm)]; exact h.hW, fr⟩ (by rw [List.length_set]; exact h.r16) rfl h.pc0 h.pc1 (set_in h.rr h0 h1) h.ww, hn, fr⟩
theorem MA.store_word {H : Heap} {ty : TypeId} {M W : Nat} {cp : Value} {m : Mach} (h : MA H ty M W cp m) {k : Nat} {v : Int} (h0 : 0 ≤ v) (h1 : v < 4294967296) :
    MA (H.put W ⟨(m.Wd.set k v).map (Value.int .u32), 30, false⟩) ty M W cp ⟨m.R, m.Wd.set k v, m.C, m.pc⟩ ∧ Fr2 H (H.put W ⟨(m.Wd.set k v).map (Value.int .u32), 30, false⟩) M W := by
  have hmw := h.mw
  have fr : ∀ b, b < H.n → b ≠ M → b ≠ W → (H.put W ⟨(m.Wd.set k v).map (Value.int .u32), 30, false⟩).get b = H.get b := fun b _ _ h2 => by rw [Heap.get_put, if_neg h2]
  have hn : H.n ≤ (H.put W ⟨(m.Wd.set k v).map (Value.int .u32), 30, false⟩).n := by rw [Heap.n_put]; exact Nat.le_refl _
  exact ⟨h.of ⟨hn, by rw [Heap.get_put, if_neg hmw]; exact h.hM, (Heap.get_put _ _ _ _).trans (if_pos rfl), fr⟩ h.r16 (by rw [List.length_set]) h.pc0 h.pc1 h.rr (set_in h.ww h0 h1), hn, fr⟩
theorem f12_fn : T8.fn 12 = some Try.f12 := by kernel_rfl
noncomputable def f12b : Code := Try.f12.body.getD .skip
theorem f12_body : Try.f12.body = some f12b := by kernel_rfl
theorem within_neg {n : Int} {H : Heap} : ACall Try.prog T8 12 #[.int .i64 n, .int .i64 (-3), .int .i64 100] H fun r H' => ∃ k : Int, -3 ≤ k ∧ k ≤ 100 ∧ r = .int .i64 k ∧ H = H' := by
  obtain ⟨q, hq, q0, q1⟩ : ∃ q : Int, Int.tmod n 104 = q ∧ -104 < q ∧ q < 104 := ⟨_, rfl, by rw [tmod_emod n 104 (by omega)]; split; omega; split <;> omega, by rw [tmod_emod n 104 (by omega)]; split; omega; split <;> omega⟩
  have ho : T8.orc 12 [.int .i64 n, .int .i64 (-3), .int .i64 100] = none := (by kernel_rfl : T8.orc 12 [.int .i64 n, .int .i64 (-3), .int .i64 100] = sp12 [.int .i64 n, .int .i64 (-3), .int .i64 100]).trans (by simp [sp12, inB])
  refine acall_cf 24 (initTm 0 #[.int .i64 n, .int .i64 (-3), .int .i64 100]) ho f12_fn f12_body rfl rfl ?_
  refine cf_go 13 ?_
  refine cf_see 12 (.int .i64 q) (see_int (x := Int.tmod n 104) (by kernel_rfl) hq) ?_
  refine cf_go 10 ?_
  rcases Bool.eq_false_or_eq_true ((decide ((q : Int) < 0))) with hc1 | hc1 <;> have hc2 := hc1 <;> simp only [decide_eq_true_eq, decide_eq_false_iff_not] at hc2
  · skip
    refine cf_see 14 (.bool true) (see_bool (by kernel_rfl) hc1) ?_
    refine cf_go 5 ?_
    refine cf_see 17 (.int .i64 (q + 100)) (see_int (x := (IntKind.i64.wrap (q + 100))) (by kernel_rfl) (w64 (by omega) (by omega) (by omega))) ?_
    refine cf_go 2 ?_
    refine cf_see 19 (.int .i64 ((q + 100) - (-3))) (see_int (x := (IntKind.i64.wrap ((q + 100) - (-3)))) (by kernel_rfl) (w64 (by omega) (by omega) (by omega))) ?_
    refine cf_go 1 ?_
    refine cf_see 20 (.int .i64 (((q + 100) - (-3)) + 1)) (see_int (x := (IntKind.i64.wrap (((q + 100) - (-3)) + 1))) (by kernel_rfl) (w64 (by omega) (by omega) (by omega))) ?_
    refine cf_go 8 ?_
    refine cf_see 23 (.int .i64 ((-3) + (((q + 100) - (-3)) + 1))) (see_int (x := (IntKind.i64.wrap ((-3) + (((q + 100) - (-3)) + 1)))) (by kernel_rfl) (w64 (by omega) (by omega) (by omega))) ?_
    refine cf_go 4 ?_
    refine cf_end (.int .i64 ((-3) + (((q + 100) - (-3)) + 1))) H (by kernel_rfl) (by kernel_rfl) (by kernel_rfl) ?_
    exact ⟨((-3) + (((q + 100) - (-3)) + 1)), by omega, by omega, rfl, rfl⟩
  · skip
    refine cf_see 14 (.bool false) (see_bool (by kernel_rfl) hc1) ?_
    refine cf_go 8 ?_
    refine cf_see 23 (.int .i64 ((-3) + q)) (see_int (x := (IntKind.i64.wrap ((-3) + q))) (by kernel_rfl) (w64 (by omega) (by omega) (by omega))) ?_
    refine cf_go 4 ?_
    refine cf_end (.int .i64 ((-3) + q)) H (by kernel_rfl) (by kernel_rfl) (by kernel_rfl) ?_
    exact ⟨((-3) + q), by omega, by omega, rfl, rfl⟩
noncomputable def f7b : Code := Try.f7.body.getD .skip
theorem f7_body : Try.f7.body = some f7b := by kernel_rfl
theorem f7_fn : T8.fn 7 = some Try.f7 := by kernel_rfl
set_option maxHeartbeats 4000000 in
theorem plays_at {H : Heap} {vl : Value} {L is : List Ins5} {rs ws : List Int} {pt1 pt2 : Option Addr} {cap1 cap2 : Nat} {t : Bool} {steps : Int} (hI : InsA H vl L) (hL : ∀ i ∈ L, okA i) (hi : (L.take 30).map (madeI t) = is) (hd : Dec (codeB is) is ∧ (codeB is).length = 8 * is.length ∧ (codeB is).length ≤ 100000) (hrs : ∀ x ∈ rs, 0 ≤ x ∧ x < 18446744073709551616) (hws : ∀ x ∈ ws, 0 ≤ x ∧ x < 4294967296) (hN1 : NumsA H .u64 (.slice pt1 rs.length cap1) rs) (hN2 : NumsA H .u32 (.slice pt2 ws.length cap2) ws) : ACall Try.prog T8 7 #[vl, (.slice pt1 rs.length cap1), (.slice pt2 ws.length cap2), .bool t, .int .i64 steps] H fun r H' => r = .bool true := by
  refine acall_cf 227 (initTm 0 #[vl, (.slice pt1 rs.length cap1), (.slice pt2 ws.length cap2), .bool t, .int .i64 steps]) rfl f7_fn f7_body rfl rfl ?_
  refine cf_go 13 ?_
  refine cf_call 32 8 #[.int .i64 8] H (by kernel_rfl) (by kernel_rfl) (by kernel_rfl) (new_any (n := 8) (by omega) (by omega)) ?_
  rintro _ H1_ ⟨M1, W1, rfl, maM1H1_, lM1, lW1, nnH1_, vH1_⟩
  have uH1_ := vH1_.mono (lo' := H.n) (by omega)
  have nH1_ := uH1_.n
  have kH1_ := vH1_.n
  have bM1 := maM1H1_.mn
  have bW1 := maM1H1_.wn
  refine cf_go 10 ?_
  refine cf_call 37 8 #[.int .i64 8] H1_ (by kernel_rfl) (by kernel_rfl) (by kernel_rfl) (new_any (n := 8) (by omega) (by omega)) ?_
  rintro _ H2_ ⟨M2, W2, rfl, maM2H2_, lM2, lW2, nnH2_, vH2_⟩
  have uH2_ := vH2_.mono (lo' := H.n) (by omega)
  have nH2_ := uH2_.n
  have kH2_ := vH2_.n
  have maM1H2_ := maM1H1_.keep vH2_.n vH2_.get
  have bM2 := maM2H2_.mn
  have bW2 := maM2H2_.wn
  refine cf_go 10 ?_
  refine cf_call 41 22 #[.int .i64 8] H2_ (by kernel_rfl) (by kernel_rfl) (by kernel_rfl) (rnew_any (n := 8) (by omega) (by omega)) ?_
  rintro _ H3_ ⟨M3, W3, rfl, maM3H3_, lM3, lW3, nnH3_, vH3_⟩
  have uH3_ := vH3_.mono (lo' := H.n) (by omega)
  have nH3_ := uH3_.n
  have kH3_ := vH3_.n
  have maM1H3_ := maM1H2_.keep vH3_.n vH3_.get
  have maM2H3_ := maM2H2_.keep vH3_.n vH3_.get
  have bM3 := maM3H3_.mn
  have bW3 := maM3H3_.wn
  refine cf_go 1 ?_
  refine cf_call 43 22 #[.int .i64 8] H3_ (by kernel_rfl) (by kernel_rfl) (by kernel_rfl) (rnew_any (n := 8) (by omega) (by omega)) ?_
  rintro _ H4_ ⟨M4, W4, rfl, maM4H4_, lM4, lW4, nnH4_, vH4_⟩
  have uH4_ := vH4_.mono (lo' := H.n) (by omega)
  have nH4_ := uH4_.n
  have kH4_ := vH4_.n
  have maM1H4_ := maM1H3_.keep vH4_.n vH4_.get
  have maM2H4_ := maM2H3_.keep vH4_.n vH4_.get
  have maM3H4_ := maM3H3_.keep vH4_.n vH4_.get
  have bM4 := maM4H4_.mn
  have bW4 := maM4H4_.wn
  refine cf_go 8 ?_
  refine cf_call 46 9 #[vl, .bool t] H4_ (by kernel_rfl) (by kernel_rfl) (by kernel_rfl) (made_view t (hI.keep (H' := H4_) (by omega) (fun b hb => by rw [uH4_.get _ (by omega), uH3_.get _ (by omega), uH2_.get _ (by omega), uH1_.get _ (by omega)])) hL hi) ?_
  rintro _ H5_ ⟨ptc, capc, rfl, grH5_, hCc, vH5_⟩
  have uH5_ := vH5_.mono (lo' := H.n) (by omega)
  have nH5_ := uH5_.n
  have kH5_ := vH5_.n
  have maM1H5_ := maM1H4_.keep vH5_.n vH5_.get
  have maM2H5_ := maM2H4_.keep vH5_.n vH5_.get
  have maM3H5_ := maM3H4_.keep vH5_.n vH5_.get
  have maM4H5_ := maM4H4_.keep vH5_.n vH5_.get
  refine cf_go 23 ?_
  refine cf_call 64 10 #[.pointer (some ⟨M1, 0, none⟩), (.slice ptc (codeB is).length capc)] H5_ (by kernel_rfl) (by kernel_rfl) (by kernel_rfl) (load_ma maM1H5_ (Gr.byts (codeB_in _) grH5_) hCc hd.2.2 (codeB_in _) hd.1 hd.2.1) ?_
  rintro _ H6_ ⟨rfl, ⟨cpM1, maM1H6_⟩, frH6_⟩
  have uH6_ := frH6_.up (lo := H.n) (M := M1) (W := W1) (by omega) (by omega) (by omega)
  have nH6_ := uH6_.n
  have kH6_ := frH6_.n
  have maM2H6_ := maM2H5_.beside maM1H5_ (by omega) (by omega) frH6_
  have maM3H6_ := maM3H5_.beside maM1H5_ (by omega) (by omega) frH6_
  have maM4H6_ := maM4H5_.beside maM1H5_ (by omega) (by omega) frH6_
  have grH6_ := Gr.beside grH5_ maM1H5_ frH6_
  refine cf_go 5 ?_
  refine cf_call 70 10 #[.pointer (some ⟨M2, 0, none⟩), (.slice ptc (codeB is).length capc)] H6_ (by kernel_rfl) (by kernel_rfl) (by kernel_rfl) (load_ma maM2H6_ (Gr.byts (codeB_in _) grH6_) hCc hd.2.2 (codeB_in _) hd.1 hd.2.1) ?_
  rintro _ H7_ ⟨rfl, ⟨cpM2, maM2H7_⟩, frH7_⟩
  have uH7_ := frH7_.up (lo := H.n) (M := M2) (W := W2) (by omega) (by omega) (by omega)
  have nH7_ := uH7_.n
  have kH7_ := frH7_.n
  have maM1H7_ := maM1H6_.beside maM2H6_ (by omega) (by omega) frH7_
  have maM3H7_ := maM3H6_.beside maM2H6_ (by omega) (by omega) frH7_
  have maM4H7_ := maM4H6_.beside maM2H6_ (by omega) (by omega) frH7_
  have grH7_ := Gr.beside grH6_ maM2H6_ frH7_
  refine cf_go 5 ?_
  refine cf_call 76 23 #[.pointer (some ⟨M3, 0, none⟩), (.slice ptc (codeB is).length capc)] H7_ (by kernel_rfl) (by kernel_rfl) (by kernel_rfl) (rload_ma maM3H7_ (Gr.byts (codeB_in _) grH7_) hCc hd.2.2 (codeB_in _) hd.1 hd.2.1) ?_
  rintro _ H8_ ⟨rfl, ⟨cpM3, maM3H8_⟩, frH8_⟩
  have uH8_ := frH8_.up (lo := H.n) (M := M3) (W := W3) (by omega) (by omega) (by omega)
  have nH8_ := uH8_.n
  have kH8_ := frH8_.n
  have maM1H8_ := maM1H7_.beside maM3H7_ (by omega) (by omega) frH8_
  have maM2H8_ := maM2H7_.beside maM3H7_ (by omega) (by omega) frH8_
  have maM4H8_ := maM4H7_.beside maM3H7_ (by omega) (by omega) frH8_
  have grH8_ := Gr.beside grH7_ maM3H7_ frH8_
  refine cf_go 5 ?_
  refine cf_call 82 23 #[.pointer (some ⟨M4, 0, none⟩), (.slice ptc (codeB is).length capc)] H8_ (by kernel_rfl) (by kernel_rfl) (by kernel_rfl) (rload_ma maM4H8_ (Gr.byts (codeB_in _) grH8_) hCc hd.2.2 (codeB_in _) hd.1 hd.2.1) ?_
  rintro _ H9_ ⟨rfl, ⟨cpM4, maM4H9_⟩, frH9_⟩
  have uH9_ := frH9_.up (lo := H.n) (M := M4) (W := W4) (by omega) (by omega) (by omega)
  have nH9_ := uH9_.n
  have kH9_ := frH9_.n
  have maM1H9_ := maM1H8_.beside maM4H8_ (by omega) (by omega) frH9_
  have maM2H9_ := maM2H8_.beside maM4H8_ (by omega) (by omega) frH9_
  have maM3H9_ := maM3H8_.beside maM4H8_ (by omega) (by omega) frH9_
  have grH9_ := Gr.beside grH8_ maM4H8_ frH9_
  refine cf_go 14 ?_
  refine cf_loop 227 (cl (cl (cr (cl (cr (cr (cr (cr (cr (cr (cr f7b))))))))))) [.blk 0, .next (cr (cr (cr (cr (cr (cr (cr (cr f7b))))))))] (by kernel_rfl) (by kernel_rfl) (by kernel_rfl) (fun m9 s9 => ∃ (k : Nat) (m1 : Mach) (H1 : Heap), m9 = rs.length - k ∧ k ≤ rs.length ∧ m1.Wd.length = 8 ∧ MA H1 62 M1 W1 cpM1 m1 ∧ MA H1 62 M2 W2 cpM2 m1 ∧ MA H1 58 M3 W3 cpM3 m1 ∧ MA H1 58 M4 W4 cpM4 m1 ∧ Up H.n H H1 ∧ Kn s9.tm [(1, (.slice pt1 rs.length cap1)), (2, (.slice pt2 ws.length cap2)), (3, .bool t), (4, .int .i64 steps), (11, .int .i64 8), (12, .pointer (some ⟨M1, 0, none⟩)), (14, .pointer (some ⟨M2, 0, none⟩)), (16, .pointer (some ⟨M3, 0, none⟩)), (17, .pointer (some ⟨M4, 0, none⟩)), (19, .int .i64 ((k : Nat) : Int))] ∧ s9.H = H1) (rs.length) ⟨0, _, H9_, by omega, by omega, rfl, maM1H9_, maM2H9_, maM3H9_, maM4H9_, (show Up H.n H H9_ from ⟨by omega, fun b hb => by rw [uH9_.get _ (by omega), uH8_.get _ (by omega), uH7_.get _ (by omega), uH6_.get _ (by omega), uH5_.get _ (by omega), uH4_.get _ (by omega), uH3_.get _ (by omega), uH2_.get _ (by omega), uH1_.get _ (by omega)]⟩), ⟨(by kernel_rfl), (by kernel_rfl), (by kernel_rfl), (by kernel_rfl), (by kernel_rfl), (by kernel_rfl), (by kernel_rfl), (by kernel_rfl), (by kernel_rfl), (by kernel_rfl), True.intro⟩, (by kernel_rfl)⟩ ?_
  rintro m9 s9 ⟨k, m1, H1, hm, hk, hWl, maM1, maM2, maM3, maM4, uH1, hkn, hH⟩ Rr1 hRr1
  refine cf_kn [(1, (.slice pt1 rs.length cap1)), (2, (.slice pt2 ws.length cap2)), (3, .bool t), (4, .int .i64 steps), (11, .int .i64 8), (12, .pointer (some ⟨M1, 0, none⟩)), (14, .pointer (some ⟨M2, 0, none⟩)), (16, .pointer (some ⟨M3, 0, none⟩)), (17, .pointer (some ⟨M4, 0, none⟩)), (19, .int .i64 ((k : Nat) : Int))] hkn hH fun tm => ?_
  have nH1 := uH1.n
  have bM1 := maM1.mn; have bW1 := maM1.wn; have bM2 := maM2.mn; have bW2 := maM2.wn; have bM3 := maM3.mn; have bW3 := maM3.wn; have bM4 := maM4.mn; have bW4 := maM4.wn
  by_cases hlt : k < rs.length ∧ k < 16
  · skip
    obtain ⟨x, hx⟩ : ∃ x, rs[k]? = some x := ⟨_, List.getElem?_eq_getElem hlt.1⟩
    obtain ⟨x0, x1⟩ := hrs _ (List.mem_of_getElem? hx)
    rcases hN1.at_ with ⟨_, _, h0⟩ | ⟨A, off, cap, cells, e, ro, he, gA, hAn, hA⟩
    · rw [h0] at hlt; simp at hlt
    obtain ⟨rfl, rfl⟩ : pt1 = some ⟨A, off, none⟩ ∧ cap1 = cap := by injection he with e1 _ e3; exact ⟨e1, e3⟩
    have cx : cells[off + k * 1]? = some (.int .u64 x) := by have := hA k hlt.1; rw [List.getElem?_eq_getElem hlt.1] at hx; rw [this, Option.some.inj hx]
    refine cf_go 7 ?_
    refine cf_see 88 (.bool true) (see_bool (by kernel_rfl) ((decide_eq_true (by omega)) : ((decide (((k : Nat) : Int) < ((rs.length : Nat) : Int)))) = true)) ?_
    refine cf_go 3 ?_
    refine cf_see 91 (.bool true) (see_bool (by kernel_rfl) ((decide_eq_true (by omega)) : ((decide (((k : Nat) : Int) < 16))) = true)) ?_
    refine cf_go 12 ?_
    refine cf_val 97 (.pointer (some ⟨A, off + k * 1, none⟩)) H1 (by kernel_rfl) ((by kernel_rfl : _ = val (bif (k : Nat).blt rs.length then some (.pointer (some ⟨A, off + k * 1, none⟩)) else none) H1).trans (by rw [show (k : Nat).blt rs.length = true from (by rw [blt_dec]; simp only [decide_eq_true_eq]; omega)]; rfl)) ?_
    have gH1A : H1.get (A) = some ⟨cells, e, ro⟩ := by rw [uH1.get _ (by omega)]; exact gA
    refine cf_val 98 (.int .u64 x) H1 (by kernel_rfl) ((by kernel_rfl : _ = val (aload T8 42 (.pointer (some ⟨A, off + k * 1, none⟩)) H1) H1).trans (val_of ((aload_at gH1A).trans (aloadC_cellB (n := 1) (by kernel_rfl) (by kernel_rfl) cx)))) ?_
    refine cf_go 9 ?_
    rcases Bool.eq_false_or_eq_true (t) with hc1 | hc1
    · skip
      refine cf_see 99 (.bool true) (see_bool (by kernel_rfl) hc1) ?_
      refine cf_go 4 ?_
      refine cf_see 101 (.int .u64 (x % 9)) (see_int (x := Int.tmod x 9) (by kernel_rfl) (Int.tmod_eq_emod_of_nonneg (by omega))) ?_
      refine cf_go 9 ?_
      refine cf_call 105 17 #[.pointer (some ⟨M1, 0, none⟩), .int .i64 ((k : Nat) : Int), .int .u64 (x % 9)] H1 (by kernel_rfl) (by kernel_rfl) (by kernel_rfl) (setreg_ma maM1 (k := k) (v := (x % 9)) (by omega) (by omega) (by omega)) ?_
      rintro _ H10_ ⟨rfl, maM1H10_, frH10_⟩
      have uH10_ := frH10_.up (lo := H.n) (M := M1) (W := W1) (by omega) (by omega) (by omega)
      have nH10_ := uH10_.n
      have kH10_ := frH10_.n
      have maM2H10_ := maM2.beside maM1 (by omega) (by omega) frH10_
      have maM3H10_ := maM3.beside maM1 (by omega) (by omega) frH10_
      have maM4H10_ := maM4.beside maM1 (by omega) (by omega) frH10_
      refine cf_go 5 ?_
      refine cf_call 111 17 #[.pointer (some ⟨M2, 0, none⟩), .int .i64 ((k : Nat) : Int), .int .u64 (x % 9)] H10_ (by kernel_rfl) (by kernel_rfl) (by kernel_rfl) (setreg_ma maM2H10_ (k := k) (v := (x % 9)) (by omega) (by omega) (by omega)) ?_
      rintro _ H11_ ⟨rfl, maM2H11_, frH11_⟩
      have uH11_ := frH11_.up (lo := H.n) (M := M2) (W := W2) (by omega) (by omega) (by omega)
      have nH11_ := uH11_.n
      have kH11_ := frH11_.n
      have maM1H11_ := maM1H10_.beside maM2H10_ (by omega) (by omega) frH11_
      have maM3H11_ := maM3H10_.beside maM2H10_ (by omega) (by omega) frH11_
      have maM4H11_ := maM4H10_.beside maM2H10_ (by omega) (by omega) frH11_
      refine cf_go 16 ?_
      refine cf_val 122 (.pointer (some ⟨M3, 0 + k * 1, none⟩)) H11_ (by kernel_rfl) ((by kernel_rfl : _ = val (bif (k : Nat).blt 16 then some (.pointer (some ⟨M3, 0 + k * 1, none⟩)) else none) H11_).trans (by rw [show (k : Nat).blt 16 = true from (by rw [blt_dec]; simp only [decide_eq_true_eq]; omega)]; rfl)) ?_
      obtain ⟨H12_, hhH12_⟩ : ∃ Hx : Heap, Hx = H11_.put (M3) ⟨macC (m1.R.set k (x % 9)) W3 m1.Wd.length cpM3 m1.pc, 58, false⟩ := ⟨_, rfl⟩
      have hstH12_ := MA.store_reg maM3H11_ (k := k) (v := (x % 9)) (by omega) (by omega) (by omega)
      rw [← hhH12_] at hstH12_
      obtain ⟨maM3H12_, frH12_⟩ := hstH12_
      refine cf_skip H12_ (by kernel_rfl) ((by kernel_rfl : _ = skp (astore T8 42 (.pointer (some ⟨M3, 0 + k * 1, none⟩)) (.int .u64 (x % 9)) H11_)).trans (by rw [(astore_to maM3H11_.hM ((astoreC_one (by kernel_rfl) rfl rfl (by unfold macC; rw [ml maM3H11_.r16]; omega)).trans (congrArg some (ms_r maM3H11_.r16 (by omega)))))]; show some (Res.skip, H11_.put _ _) = _; rw [hhH12_]; try rfl)) ?_
      have uH12_ := frH12_.up (lo := H.n) (M := M3) (W := W3) (by omega) (by omega) (by omega)
      have nH12_ := uH12_.n
      have kH12_ := frH12_.n
      have maM1H12_ := maM1H11_.beside maM3H11_ (by omega) (by omega) frH12_
      have maM2H12_ := maM2H11_.beside maM3H11_ (by omega) (by omega) frH12_
      have maM4H12_ := maM4H11_.beside maM3H11_ (by omega) (by omega) frH12_
      refine cf_go 2 ?_
      refine cf_val 125 (.pointer (some ⟨M4, 0 + k * 1, none⟩)) H12_ (by kernel_rfl) ((by kernel_rfl : _ = val (bif (k : Nat).blt 16 then some (.pointer (some ⟨M4, 0 + k * 1, none⟩)) else none) H12_).trans (by rw [show (k : Nat).blt 16 = true from (by rw [blt_dec]; simp only [decide_eq_true_eq]; omega)]; rfl)) ?_
      obtain ⟨H13_, hhH13_⟩ : ∃ Hx : Heap, Hx = H12_.put (M4) ⟨macC (m1.R.set k (x % 9)) W4 m1.Wd.length cpM4 m1.pc, 58, false⟩ := ⟨_, rfl⟩
      have hstH13_ := MA.store_reg maM4H12_ (k := k) (v := (x % 9)) (by omega) (by omega) (by omega)
      rw [← hhH13_] at hstH13_
      obtain ⟨maM4H13_, frH13_⟩ := hstH13_
      refine cf_skip H13_ (by kernel_rfl) ((by kernel_rfl : _ = skp (astore T8 42 (.pointer (some ⟨M4, 0 + k * 1, none⟩)) (.int .u64 (x % 9)) H12_)).trans (by rw [(astore_to maM4H12_.hM ((astoreC_one (by kernel_rfl) rfl rfl (by unfold macC; rw [ml maM4H12_.r16]; omega)).trans (congrArg some (ms_r maM4H12_.r16 (by omega)))))]; show some (Res.skip, H12_.put _ _) = _; rw [hhH13_]; try rfl)) ?_
      have uH13_ := frH13_.up (lo := H.n) (M := M4) (W := W4) (by omega) (by omega) (by omega)
      have nH13_ := uH13_.n
      have kH13_ := frH13_.n
      have maM1H13_ := maM1H12_.beside maM4H12_ (by omega) (by omega) frH13_
      have maM2H13_ := maM2H12_.beside maM4H12_ (by omega) (by omega) frH13_
      have maM3H13_ := maM3H12_.beside maM4H12_ (by omega) (by omega) frH13_
      refine cf_go 6 ?_
      refine cf_see 94 (.int .i64 ((k + 1 : Nat) : Int)) (see_int (x := (IntKind.i64.wrap (((k : Nat) : Int) + 1))) (by kernel_rfl) (w64 (by omega) (by omega) (by omega))) ?_
      refine cf_go 2 ?_
      refine cf_inv Rr1 (by kernel_rfl) (hRr1 _ ⟨rs.length - (k + 1), by omega, k + 1, (⟨m1.R.set k (x % 9), m1.Wd, m1.C, m1.pc⟩ : Mach), H13_, rfl, by omega, hWl, maM1H13_, maM2H13_, maM3H13_, maM4H13_, (show Up H.n H H13_ from ⟨by omega, fun b hb => by rw [uH13_.get _ (by omega), uH12_.get _ (by omega), uH11_.get _ (by omega), uH10_.get _ (by omega), uH1.get _ (by omega)]⟩), ⟨(by kernel_rfl), (by kernel_rfl), (by kernel_rfl), (by kernel_rfl), (by kernel_rfl), (by kernel_rfl), (by kernel_rfl), (by kernel_rfl), (by kernel_rfl), (by kernel_rfl), True.intro⟩, (by kernel_rfl)⟩)
    · skip
      refine cf_see 99 (.bool false) (see_bool (by kernel_rfl) hc1) ?_
      refine cf_go 9 ?_
      refine cf_call 105 17 #[.pointer (some ⟨M1, 0, none⟩), .int .i64 ((k : Nat) : Int), .int .u64 x] H1 (by kernel_rfl) (by kernel_rfl) (by kernel_rfl) (setreg_ma maM1 (k := k) (v := x) (by omega) (by omega) (by omega)) ?_
      rintro _ H14_ ⟨rfl, maM1H14_, frH14_⟩
      have uH14_ := frH14_.up (lo := H.n) (M := M1) (W := W1) (by omega) (by omega) (by omega)
      have nH14_ := uH14_.n
      have kH14_ := frH14_.n
      have maM2H14_ := maM2.beside maM1 (by omega) (by omega) frH14_
      have maM3H14_ := maM3.beside maM1 (by omega) (by omega) frH14_
      have maM4H14_ := maM4.beside maM1 (by omega) (by omega) frH14_
      refine cf_go 5 ?_
      refine cf_call 111 17 #[.pointer (some ⟨M2, 0, none⟩), .int .i64 ((k : Nat) : Int), .int .u64 x] H14_ (by kernel_rfl) (by kernel_rfl) (by kernel_rfl) (setreg_ma maM2H14_ (k := k) (v := x) (by omega) (by omega) (by omega)) ?_
      rintro _ H15_ ⟨rfl, maM2H15_, frH15_⟩
      have uH15_ := frH15_.up (lo := H.n) (M := M2) (W := W2) (by omega) (by omega) (by omega)
      have nH15_ := uH15_.n
      have kH15_ := frH15_.n
      have maM1H15_ := maM1H14_.beside maM2H14_ (by omega) (by omega) frH15_
      have maM3H15_ := maM3H14_.beside maM2H14_ (by omega) (by omega) frH15_
      have maM4H15_ := maM4H14_.beside maM2H14_ (by omega) (by omega) frH15_
      refine cf_go 16 ?_
      refine cf_val 122 (.pointer (some ⟨M3, 0 + k * 1, none⟩)) H15_ (by kernel_rfl) ((by kernel_rfl : _ = val (bif (k : Nat).blt 16 then some (.pointer (some ⟨M3, 0 + k * 1, none⟩)) else none) H15_).trans (by rw [show (k : Nat).blt 16 = true from (by rw [blt_dec]; simp only [decide_eq_true_eq]; omega)]; rfl)) ?_
      obtain ⟨H16_, hhH16_⟩ : ∃ Hx : Heap, Hx = H15_.put (M3) ⟨macC (m1.R.set k x) W3 m1.Wd.length cpM3 m1.pc, 58, false⟩ := ⟨_, rfl⟩
      have hstH16_ := MA.store_reg maM3H15_ (k := k) (v := x) (by omega) (by omega) (by omega)
      rw [← hhH16_] at hstH16_
      obtain ⟨maM3H16_, frH16_⟩ := hstH16_
      refine cf_skip H16_ (by kernel_rfl) ((by kernel_rfl : _ = skp (astore T8 42 (.pointer (some ⟨M3, 0 + k * 1, none⟩)) (.int .u64 x) H15_)).trans (by rw [(astore_to maM3H15_.hM ((astoreC_one (by kernel_rfl) rfl rfl (by unfold macC; rw [ml maM3H15_.r16]; omega)).trans (congrArg some (ms_r maM3H15_.r16 (by omega)))))]; show some (Res.skip, H15_.put _ _) = _; rw [hhH16_]; try rfl)) ?_
      have uH16_ := frH16_.up (lo := H.n) (M := M3) (W := W3) (by omega) (by omega) (by omega)
      have nH16_ := uH16_.n
      have kH16_ := frH16_.n
      have maM1H16_ := maM1H15_.beside maM3H15_ (by omega) (by omega) frH16_
      have maM2H16_ := maM2H15_.beside maM3H15_ (by omega) (by omega) frH16_
      have maM4H16_ := maM4H15_.beside maM3H15_ (by omega) (by omega) frH16_
      refine cf_go 2 ?_
      refine cf_val 125 (.pointer (some ⟨M4, 0 + k * 1, none⟩)) H16_ (by kernel_rfl) ((by kernel_rfl : _ = val (bif (k : Nat).blt 16 then some (.pointer (some ⟨M4, 0 + k * 1, none⟩)) else none) H16_).trans (by rw [show (k : Nat).blt 16 = true from (by rw [blt_dec]; simp only [decide_eq_true_eq]; omega)]; rfl)) ?_
      obtain ⟨H17_, hhH17_⟩ : ∃ Hx : Heap, Hx = H16_.put (M4) ⟨macC (m1.R.set k x) W4 m1.Wd.length cpM4 m1.pc, 58, false⟩ := ⟨_, rfl⟩
      have hstH17_ := MA.store_reg maM4H16_ (k := k) (v := x) (by omega) (by omega) (by omega)
      rw [← hhH17_] at hstH17_
      obtain ⟨maM4H17_, frH17_⟩ := hstH17_
      refine cf_skip H17_ (by kernel_rfl) ((by kernel_rfl : _ = skp (astore T8 42 (.pointer (some ⟨M4, 0 + k * 1, none⟩)) (.int .u64 x) H16_)).trans (by rw [(astore_to maM4H16_.hM ((astoreC_one (by kernel_rfl) rfl rfl (by unfold macC; rw [ml maM4H16_.r16]; omega)).trans (congrArg some (ms_r maM4H16_.r16 (by omega)))))]; show some (Res.skip, H16_.put _ _) = _; rw [hhH17_]; try rfl)) ?_
      have uH17_ := frH17_.up (lo := H.n) (M := M4) (W := W4) (by omega) (by omega) (by omega)
      have nH17_ := uH17_.n
      have kH17_ := frH17_.n
      have maM1H17_ := maM1H16_.beside maM4H16_ (by omega) (by omega) frH17_
      have maM2H17_ := maM2H16_.beside maM4H16_ (by omega) (by omega) frH17_
      have maM3H17_ := maM3H16_.beside maM4H16_ (by omega) (by omega) frH17_
      refine cf_go 6 ?_
      refine cf_see 94 (.int .i64 ((k + 1 : Nat) : Int)) (see_int (x := (IntKind.i64.wrap (((k : Nat) : Int) + 1))) (by kernel_rfl) (w64 (by omega) (by omega) (by omega))) ?_
      refine cf_go 2 ?_
      refine cf_inv Rr1 (by kernel_rfl) (hRr1 _ ⟨rs.length - (k + 1), by omega, k + 1, (⟨m1.R.set k x, m1.Wd, m1.C, m1.pc⟩ : Mach), H17_, rfl, by omega, hWl, maM1H17_, maM2H17_, maM3H17_, maM4H17_, (show Up H.n H H17_ from ⟨by omega, fun b hb => by rw [uH17_.get _ (by omega), uH16_.get _ (by omega), uH15_.get _ (by omega), uH14_.get _ (by omega), uH1.get _ (by omega)]⟩), ⟨(by kernel_rfl), (by kernel_rfl), (by kernel_rfl), (by kernel_rfl), (by kernel_rfl), (by kernel_rfl), (by kernel_rfl), (by kernel_rfl), (by kernel_rfl), (by kernel_rfl), True.intro⟩, (by kernel_rfl)⟩)
  · skip
    by_cases hlt2 : k < rs.length
    · skip
      refine cf_go 7 ?_
      refine cf_see 88 (.bool true) (see_bool (by kernel_rfl) ((decide_eq_true (by omega)) : ((decide (((k : Nat) : Int) < ((rs.length : Nat) : Int)))) = true)) ?_
      refine cf_go 3 ?_
      refine cf_see 91 (.bool false) (see_bool (by kernel_rfl) ((decide_eq_false (by omega)) : ((decide (((k : Nat) : Int) < 16))) = false)) ?_
      refine cf_go 16 ?_
      refine cf_loop 227 (cl (cl (cr (cl (cr (cr (cr (cr (cr (cr (cr (cr f7b)))))))))))) [.blk 2, .next (cr (cr (cr (cr (cr (cr (cr (cr (cr f7b)))))))))] (by kernel_rfl) (by kernel_rfl) (by kernel_rfl) (fun m9 s9 => ∃ (k : Nat) (m1 : Mach) (H1 : Heap), m9 = ws.length - k ∧ k ≤ ws.length ∧ m1.Wd.length = 8 ∧ MA H1 62 M1 W1 cpM1 m1 ∧ MA H1 62 M2 W2 cpM2 m1 ∧ MA H1 58 M3 W3 cpM3 m1 ∧ MA H1 58 M4 W4 cpM4 m1 ∧ Up H.n H H1 ∧ Kn s9.tm [(2, (.slice pt2 ws.length cap2)), (3, .bool t), (4, .int .i64 steps), (11, .int .i64 8), (12, .pointer (some ⟨M1, 0, none⟩)), (14, .pointer (some ⟨M2, 0, none⟩)), (16, .pointer (some ⟨M3, 0, none⟩)), (17, .pointer (some ⟨M4, 0, none⟩)), (21, .int .i64 ((k : Nat) : Int))] ∧ s9.H = H1) (ws.length) ⟨0, _, H1, by omega, by omega, hWl, maM1, maM2, maM3, maM4, (show Up H.n H H1 from ⟨by omega, fun b hb => by rw [uH1.get _ (by omega)]⟩), ⟨(by kernel_rfl), (by kernel_rfl), (by kernel_rfl), (by kernel_rfl), (by kernel_rfl), (by kernel_rfl), (by kernel_rfl), (by kernel_rfl), (by kernel_rfl), True.intro⟩, (by kernel_rfl)⟩ ?_
      rintro m9 s9 ⟨k, m1, H1, hm, hk, hWl, maM1, maM2, maM3, maM4, uH1, hkn, hH⟩ Rr2 hRr2
      refine cf_kn [(2, (.slice pt2 ws.length cap2)), (3, .bool t), (4, .int .i64 steps), (11, .int .i64 8), (12, .pointer (some ⟨M1, 0, none⟩)), (14, .pointer (some ⟨M2, 0, none⟩)), (16, .pointer (some ⟨M3, 0, none⟩)), (17, .pointer (some ⟨M4, 0, none⟩)), (21, .int .i64 ((k : Nat) : Int))] hkn hH fun tm => ?_
      have nH1 := uH1.n
      have bM1 := maM1.mn; have bW1 := maM1.wn; have bM2 := maM2.mn; have bW2 := maM2.wn; have bM3 := maM3.mn; have bW3 := maM3.wn; have bM4 := maM4.mn; have bW4 := maM4.wn
      by_cases hlt : k < ws.length ∧ k < 8
      · skip
        obtain ⟨x, hx⟩ : ∃ x, ws[k]? = some x := ⟨_, List.getElem?_eq_getElem hlt.1⟩
        obtain ⟨x0, x1⟩ := hws _ (List.mem_of_getElem? hx)
        rcases hN2.at_ with ⟨_, _, h0⟩ | ⟨A, off, cap, cells, e, ro, he, gA, hAn, hA⟩
        · rw [h0] at hlt; simp at hlt
        obtain ⟨rfl, rfl⟩ : pt2 = some ⟨A, off, none⟩ ∧ cap2 = cap := by injection he with e1 _ e3; exact ⟨e1, e3⟩
        have cx : cells[off + k * 1]? = some (.int .u32 x) := by have := hA k hlt.1; rw [List.getElem?_eq_getElem hlt.1] at hx; rw [this, Option.some.inj hx]
        refine cf_go 7 ?_
        refine cf_see 129 (.bool true) (see_bool (by kernel_rfl) ((decide_eq_true (by omega)) : ((decide (((k : Nat) : Int) < ((ws.length : Nat) : Int)))) = true)) ?_
        refine cf_go 4 ?_
        refine cf_see 133 (.bool true) (see_bool (by kernel_rfl) ((decide_eq_true (by omega)) : ((decide (((k : Nat) : Int) < 8))) = true)) ?_
        refine cf_go 15 ?_
        refine cf_val 141 (.pointer (some ⟨A, off + k * 1, none⟩)) H1 (by kernel_rfl) ((by kernel_rfl : _ = val (bif (k : Nat).blt ws.length then some (.pointer (some ⟨A, off + k * 1, none⟩)) else none) H1).trans (by rw [show (k : Nat).blt ws.length = true from (by rw [blt_dec]; simp only [decide_eq_true_eq]; omega)]; rfl)) ?_
        have gH1A : H1.get (A) = some ⟨cells, e, ro⟩ := by rw [uH1.get _ (by omega)]; exact gA
        refine cf_val 142 (.int .u32 x) H1 (by kernel_rfl) ((by kernel_rfl : _ = val (aload T8 30 (.pointer (some ⟨A, off + k * 1, none⟩)) H1) H1).trans (val_of ((aload_at gH1A).trans (aloadC_cellB (n := 1) (by kernel_rfl) (by kernel_rfl) cx)))) ?_
        refine cf_call 143 24 #[.pointer (some ⟨M1, 0, none⟩), .int .i64 ((k : Nat) : Int), .int .u32 x] H1 (by kernel_rfl) (by kernel_rfl) (by kernel_rfl) (setword_ma maM1 (k := k) (v := x) (by first | omega | (rw [hW8]; omega)) (by omega) (by omega)) ?_
        rintro _ H18_ ⟨rfl, maM1H18_, frH18_⟩
        have uH18_ := frH18_.up (lo := H.n) (M := M1) (W := W1) (by omega) (by omega) (by omega)
        have nH18_ := uH18_.n
        have kH18_ := frH18_.n
        have maM2H18_ := maM2.beside maM1 (by omega) (by omega) frH18_
        have maM3H18_ := maM3.beside maM1 (by omega) (by omega) frH18_
        have maM4H18_ := maM4.beside maM1 (by omega) (by omega) frH18_
        refine cf_go 6 ?_
        refine cf_val 150 (.pointer (some ⟨A, off + k * 1, none⟩)) H18_ (by kernel_rfl) ((by kernel_rfl : _ = val (bif (k : Nat).blt ws.length then some (.pointer (some ⟨A, off + k * 1, none⟩)) else none) H18_).trans (by rw [show (k : Nat).blt ws.length = true from (by rw [blt_dec]; simp only [decide_eq_true_eq]; omega)]; rfl)) ?_
        have gH18_A : H18_.get (A) = some ⟨cells, e, ro⟩ := by rw [uH18_.get _ (by omega)]; exact gH1A
        refine cf_val 151 (.int .u32 x) H18_ (by kernel_rfl) ((by kernel_rfl : _ = val (aload T8 30 (.pointer (some ⟨A, off + k * 1, none⟩)) H18_) H18_).trans (val_of ((aload_at gH18_A).trans (aloadC_cellB (n := 1) (by kernel_rfl) (by kernel_rfl) cx)))) ?_
        refine cf_call 152 24 #[.pointer (some ⟨M2, 0, none⟩), .int .i64 ((k : Nat) : Int), .int .u32 x] H18_ (by kernel_rfl) (by kernel_rfl) (by kernel_rfl) (setword_ma maM2H18_ (k := k) (v := x) (by first | omega | (rw [hW8]; omega)) (by omega) (by omega)) ?_
        rintro _ H19_ ⟨rfl, maM2H19_, frH19_⟩
        have uH19_ := frH19_.up (lo := H.n) (M := M2) (W := W2) (by omega) (by omega) (by omega)
        have nH19_ := uH19_.n
        have kH19_ := frH19_.n
        have maM1H19_ := maM1H18_.beside maM2H18_ (by omega) (by omega) frH19_
        have maM3H19_ := maM3H18_.beside maM2H18_ (by omega) (by omega) frH19_
        have maM4H19_ := maM4H18_.beside maM2H18_ (by omega) (by omega) frH19_
        refine cf_go 11 ?_
        refine cf_val 158 (.slice (some ⟨W3, 0, none⟩) m1.Wd.length m1.Wd.length) H19_ (by kernel_rfl) ((by kernel_rfl : _ = val (aload T8 56 (.pointer (some ⟨M3, 16, none⟩)) H19_) H19_).trans (val_of ((aload_at maM3H19_.hM).trans (aloadC_cellB (n := 1) (by kernel_rfl) (by kernel_rfl) (mc_16 maM3H19_.r16))))) ?_
        refine cf_go 4 ?_
        refine cf_val 163 (.slice (some ⟨W4, 0, none⟩) m1.Wd.length m1.Wd.length) H19_ (by kernel_rfl) ((by kernel_rfl : _ = val (aload T8 56 (.pointer (some ⟨M4, 16, none⟩)) H19_) H19_).trans (val_of ((aload_at maM4H19_.hM).trans (aloadC_cellB (n := 1) (by kernel_rfl) (by kernel_rfl) (mc_16 maM4H19_.r16))))) ?_
        refine cf_go 3 ?_
        refine cf_val 167 (.pointer (some ⟨A, off + k * 1, none⟩)) H19_ (by kernel_rfl) ((by kernel_rfl : _ = val (bif (k : Nat).blt ws.length then some (.pointer (some ⟨A, off + k * 1, none⟩)) else none) H19_).trans (by rw [show (k : Nat).blt ws.length = true from (by rw [blt_dec]; simp only [decide_eq_true_eq]; omega)]; rfl)) ?_
        have gH19_A : H19_.get (A) = some ⟨cells, e, ro⟩ := by rw [uH19_.get _ (by omega)]; exact gH18_A
        refine cf_val 168 (.int .u32 x) H19_ (by kernel_rfl) ((by kernel_rfl : _ = val (aload T8 30 (.pointer (some ⟨A, off + k * 1, none⟩)) H19_) H19_).trans (val_of ((aload_at gH19_A).trans (aloadC_cellB (n := 1) (by kernel_rfl) (by kernel_rfl) cx)))) ?_
        refine cf_go 2 ?_
        refine cf_val 171 (.pointer (some ⟨A, off + k * 1, none⟩)) H19_ (by kernel_rfl) ((by kernel_rfl : _ = val (bif (k : Nat).blt ws.length then some (.pointer (some ⟨A, off + k * 1, none⟩)) else none) H19_).trans (by rw [show (k : Nat).blt ws.length = true from (by rw [blt_dec]; simp only [decide_eq_true_eq]; omega)]; rfl)) ?_
        refine cf_val 172 (.int .u32 x) H19_ (by kernel_rfl) ((by kernel_rfl : _ = val (aload T8 30 (.pointer (some ⟨A, off + k * 1, none⟩)) H19_) H19_).trans (val_of ((aload_at gH19_A).trans (aloadC_cellB (n := 1) (by kernel_rfl) (by kernel_rfl) cx)))) ?_
        refine cf_val 173 (.pointer (some ⟨W3, 0 + k * 1, none⟩)) H19_ (by kernel_rfl) ((by kernel_rfl : _ = val (bif (k : Nat).blt m1.Wd.length then some (.pointer (some ⟨W3, 0 + k * 1, none⟩)) else none) H19_).trans (by rw [show (k : Nat).blt m1.Wd.length = true from (by rw [blt_dec]; simp only [decide_eq_true_eq]; omega)]; rfl)) ?_
        obtain ⟨H20_, hhH20_⟩ : ∃ Hx : Heap, Hx = H19_.put (W3) ⟨(m1.Wd.set k x).map (Value.int .u32), 30, false⟩ := ⟨_, rfl⟩
        have hstH20_ := MA.store_word maM3H19_ (k := k) (v := x) (by omega) (by omega)
        rw [← hhH20_] at hstH20_
        obtain ⟨maM3H20_, frH20_⟩ := hstH20_
        refine cf_skip H20_ (by kernel_rfl) ((by kernel_rfl : _ = skp (astore T8 30 (.pointer (some ⟨W3, 0 + k * 1, none⟩)) (.int .u32 x) H19_)).trans (by rw [(astore_to maM3H19_.hW ((astoreC_one (by kernel_rfl) rfl rfl (by rw [List.length_map]; omega)).trans (congrArg some (mw_s _ _))))]; show some (Res.skip, H19_.put _ _) = _; rw [hhH20_]; try rfl)) ?_
        have uH20_ := frH20_.up (lo := H.n) (M := M3) (W := W3) (by omega) (by omega) (by omega)
        have nH20_ := uH20_.n
        have kH20_ := frH20_.n
        have maM1H20_ := maM1H19_.beside maM3H19_ (by omega) (by omega) frH20_
        have maM2H20_ := maM2H19_.beside maM3H19_ (by omega) (by omega) frH20_
        have maM4H20_ := maM4H19_.beside maM3H19_ (by omega) (by omega) frH20_
        refine cf_val 174 (.pointer (some ⟨W4, 0 + k * 1, none⟩)) H20_ (by kernel_rfl) ((by kernel_rfl : _ = val (bif (k : Nat).blt m1.Wd.length then some (.pointer (some ⟨W4, 0 + k * 1, none⟩)) else none) H20_).trans (by rw [show (k : Nat).blt m1.Wd.length = true from (by rw [blt_dec]; simp only [decide_eq_true_eq]; omega)]; rfl)) ?_
        obtain ⟨H21_, hhH21_⟩ : ∃ Hx : Heap, Hx = H20_.put (W4) ⟨(m1.Wd.set k x).map (Value.int .u32), 30, false⟩ := ⟨_, rfl⟩
        have hstH21_ := MA.store_word maM4H20_ (k := k) (v := x) (by omega) (by omega)
        rw [← hhH21_] at hstH21_
        obtain ⟨maM4H21_, frH21_⟩ := hstH21_
        refine cf_skip H21_ (by kernel_rfl) ((by kernel_rfl : _ = skp (astore T8 30 (.pointer (some ⟨W4, 0 + k * 1, none⟩)) (.int .u32 x) H20_)).trans (by rw [(astore_to maM4H20_.hW ((astoreC_one (by kernel_rfl) rfl rfl (by rw [List.length_map]; omega)).trans (congrArg some (mw_s _ _))))]; show some (Res.skip, H20_.put _ _) = _; rw [hhH21_]; try rfl)) ?_
        have uH21_ := frH21_.up (lo := H.n) (M := M4) (W := W4) (by omega) (by omega) (by omega)
        have nH21_ := uH21_.n
        have kH21_ := frH21_.n
        have maM1H21_ := maM1H20_.beside maM4H20_ (by omega) (by omega) frH21_
        have maM2H21_ := maM2H20_.beside maM4H20_ (by omega) (by omega) frH21_
        have maM3H21_ := maM3H20_.beside maM4H20_ (by omega) (by omega) frH21_
        refine cf_go 6 ?_
        refine cf_see 136 (.int .i64 ((k + 1 : Nat) : Int)) (see_int (x := (IntKind.i64.wrap (((k : Nat) : Int) + 1))) (by kernel_rfl) (w64 (by omega) (by omega) (by omega))) ?_
        refine cf_go 2 ?_
        refine cf_inv Rr2 (by kernel_rfl) (hRr2 _ ⟨ws.length - (k + 1), by omega, k + 1, (⟨m1.R, m1.Wd.set k x, m1.C, m1.pc⟩ : Mach), H21_, rfl, by omega, (by simpa using hWl), maM1H21_, maM2H21_, maM3H21_, maM4H21_, (show Up H.n H H21_ from ⟨by omega, fun b hb => by rw [uH21_.get _ (by omega), uH20_.get _ (by omega), uH19_.get _ (by omega), uH18_.get _ (by omega), uH1.get _ (by omega)]⟩), ⟨(by kernel_rfl), (by kernel_rfl), (by kernel_rfl), (by kernel_rfl), (by kernel_rfl), (by kernel_rfl), (by kernel_rfl), (by kernel_rfl), (by kernel_rfl), True.intro⟩, (by kernel_rfl)⟩)
      · skip
        by_cases hlt2 : k < ws.length
        · skip
          refine cf_go 7 ?_
          refine cf_see 129 (.bool true) (see_bool (by kernel_rfl) ((decide_eq_true (by omega)) : ((decide (((k : Nat) : Int) < ((ws.length : Nat) : Int)))) = true)) ?_
          refine cf_go 4 ?_
          refine cf_see 133 (.bool false) (see_bool (by kernel_rfl) ((decide_eq_false (by omega)) : ((decide (((k : Nat) : Int) < 8))) = false)) ?_
          refine cf_go 16 ?_
          obtain ⟨m0, hm0⟩ : ∃ m0 : Mach, m0 = m1 := ⟨_, rfl⟩
          have q2 := maM2; have q4 := maM4
          rw [← hm0] at q2 q4
          refine cf_loop 227 (cl (cl (cr (cl (cr (cr (cr (cr (cr (cr (cr (cr (cr f7b))))))))))))) [.blk 4, .next (cr (cr (cr (cr (cr (cr (cr (cr (cr (cr f7b))))))))))] (by kernel_rfl) (by kernel_rfl) (by kernel_rfl) (fun m9 s9 => ∃ (k : Nat) (m1 : Mach) (H1 : Heap), m9 = 60 - k ∧ k ≤ 60 ∧ MA H1 62 M1 W1 cpM1 m1 ∧ MA H1 62 M2 W2 cpM2 m0 ∧ MA H1 58 M3 W3 cpM3 m1 ∧ MA H1 58 M4 W4 cpM4 m0 ∧ Up H.n H H1 ∧ Kn s9.tm [(4, .int .i64 steps), (12, .pointer (some ⟨M1, 0, none⟩)), (14, .pointer (some ⟨M2, 0, none⟩)), (16, .pointer (some ⟨M3, 0, none⟩)), (17, .pointer (some ⟨M4, 0, none⟩)), (22, .int .i64 ((k : Nat) : Int))] ∧ s9.H = H1) (60) ⟨0, _, H1, by omega, by omega, maM1, q2, maM3, q4, (show Up H.n H H1 from ⟨by omega, fun b hb => by rw [uH1.get _ (by omega)]⟩), ⟨(by kernel_rfl), (by kernel_rfl), (by kernel_rfl), (by kernel_rfl), (by kernel_rfl), (by kernel_rfl), True.intro⟩, (by kernel_rfl)⟩ ?_
          rintro m9 s9 ⟨k, m1, H1, hm, hk, maM1, maM2, maM3, maM4, uH1, hkn, hH⟩ Rr3 hRr3
          refine cf_kn [(4, .int .i64 steps), (12, .pointer (some ⟨M1, 0, none⟩)), (14, .pointer (some ⟨M2, 0, none⟩)), (16, .pointer (some ⟨M3, 0, none⟩)), (17, .pointer (some ⟨M4, 0, none⟩)), (22, .int .i64 ((k : Nat) : Int))] hkn hH fun tm => ?_
          have nH1 := uH1.n
          have bM1 := maM1.mn; have bW1 := maM1.wn; have bM2 := maM2.mn; have bW2 := maM2.wn; have bM3 := maM3.mn; have bW3 := maM3.wn; have bM4 := maM4.mn; have bW4 := maM4.wn
          by_cases hlt : k < 60
          · skip
            rcases hs : m1.step with ⟨w, m2⟩
            refine cf_go 5 ?_
            refine cf_see 176 (.bool true) (see_bool (by kernel_rfl) ((decide_eq_true (by omega)) : ((decide (((k : Nat) : Int) < 60))) = true)) ?_
            refine cf_go 10 ?_
            refine cf_call 180 21 #[.pointer (some ⟨M1, 0, none⟩)] H1 (by kernel_rfl) (by kernel_rfl) (by kernel_rfl) (step_to maM1 hs) ?_
            rintro _ H22_ ⟨rfl, maM1H22_, frH22_⟩
            have uH22_ := frH22_.up (lo := H.n) (M := M1) (W := W1) (by omega) (by omega) (by omega)
            have nH22_ := uH22_.n
            have kH22_ := frH22_.n
            have maM2H22_ := maM2.beside maM1 (by omega) (by omega) frH22_
            have maM3H22_ := maM3.beside maM1 (by omega) (by omega) frH22_
            have maM4H22_ := maM4.beside maM1 (by omega) (by omega) frH22_
            refine cf_go 1 ?_
            refine cf_call 182 25 #[.pointer (some ⟨M3, 0, none⟩)] H22_ (by kernel_rfl) (by kernel_rfl) (by kernel_rfl) (rstep_to maM3H22_ hs) ?_
            rintro _ H23_ ⟨rfl, maM3H23_, frH23_⟩
            have uH23_ := frH23_.up (lo := H.n) (M := M3) (W := W3) (by omega) (by omega) (by omega)
            have nH23_ := uH23_.n
            have kH23_ := frH23_.n
            have maM1H23_ := maM1H22_.beside maM3H22_ (by omega) (by omega) frH23_
            have maM2H23_ := maM2H22_.beside maM3H22_ (by omega) (by omega) frH23_
            have maM4H23_ := maM4H22_.beside maM3H22_ (by omega) (by omega) frH23_
            refine cf_go 1 ?_
            refine cf_see 183 (.bool false) (see_bool (by kernel_rfl) ((bne_self_eq_false _) : (((w : Int) != w)) = false)) ?_
            refine cf_go 3 ?_
            refine cf_call 187 26 #[.pointer (some ⟨M1, 0, none⟩), .pointer (some ⟨M3, 0, none⟩)] H23_ (by kernel_rfl) (by kernel_rfl) (by kernel_rfl) (alike_ma maM1H23_ maM3H23_) ?_
            rintro _ _ ⟨rfl, rfl⟩
            refine cf_go 11 ?_
            refine cf_see 178 (.int .i64 ((k + 1 : Nat) : Int)) (see_int (x := (IntKind.i64.wrap (((k : Nat) : Int) + 1))) (by kernel_rfl) (w64 (by omega) (by omega) (by omega))) ?_
            refine cf_go 2 ?_
            refine cf_inv Rr3 (by kernel_rfl) (hRr3 _ ⟨60 - (k + 1), by omega, k + 1, m2, H23_, rfl, by omega, maM1H23_, maM2H23_, maM3H23_, maM4H23_, (show Up H.n H H23_ from ⟨by omega, fun b hb => by rw [uH23_.get _ (by omega), uH22_.get _ (by omega), uH1.get _ (by omega)]⟩), ⟨(by kernel_rfl), (by kernel_rfl), (by kernel_rfl), (by kernel_rfl), (by kernel_rfl), (by kernel_rfl), True.intro⟩, (by kernel_rfl)⟩)
          · skip
            refine cf_go 5 ?_
            refine cf_see 176 (.bool false) (see_bool (by kernel_rfl) ((decide_eq_false (by omega)) : ((decide (((k : Nat) : Int) < 60))) = false)) ?_
            refine cf_go 11 ?_
            refine cf_call 191 12 #[.int .i64 steps, .int .i64 (-3), .int .i64 100] H1 (by kernel_rfl) (by kernel_rfl) (by kernel_rfl) within_neg ?_
            rintro _ _ ⟨kq, kq0, kq1, rfl, rfl⟩
            refine cf_go 7 ?_
            rcases hR : Mach.run (kq).toNat 0 m0 with ⟨⟨wr, xr, nr⟩, mr⟩
            refine cf_call 195 11 #[.pointer (some ⟨M2, 0, none⟩), .int .i64 kq] H1 (by kernel_rfl) (by kernel_rfl) (by kernel_rfl) (run_is maM2 (by omega) (by omega) hR) ?_
            rintro _ H24_ ⟨rfl, maM2H24_, frH24_⟩
            have uH24_ := frH24_.up (lo := H.n) (M := M2) (W := W2) (by omega) (by omega) (by omega)
            have nH24_ := uH24_.n
            have kH24_ := frH24_.n
            have maM1H24_ := maM1.beside maM2 (by omega) (by omega) frH24_
            have maM3H24_ := maM3.beside maM2 (by omega) (by omega) frH24_
            have maM4H24_ := maM4.beside maM2 (by omega) (by omega) frH24_
            refine cf_go 13 ?_
            refine cf_call 202 27 #[.pointer (some ⟨M4, 0, none⟩), .int .i64 kq] H24_ (by kernel_rfl) (by kernel_rfl) (by kernel_rfl) (rrun_is maM4H24_ (by omega) (by omega) hR) ?_
            rintro _ H25_ ⟨rfl, maM4H25_, frH25_⟩
            have uH25_ := frH25_.up (lo := H.n) (M := M4) (W := W4) (by omega) (by omega) (by omega)
            have nH25_ := uH25_.n
            have kH25_ := frH25_.n
            have maM1H25_ := maM1H24_.beside maM4H24_ (by omega) (by omega) frH25_
            have maM2H25_ := maM2H24_.beside maM4H24_ (by omega) (by omega) frH25_
            have maM3H25_ := maM3H24_.beside maM4H24_ (by omega) (by omega) frH25_
            refine cf_go 14 ?_
            refine cf_see 208 (.bool true) (see_bool (by kernel_rfl) ((beq_self_eq_true _) : (((wr : Int) == wr)) = true)) ?_
            refine cf_go 4 ?_
            refine cf_see 212 (.bool true) (see_bool (by kernel_rfl) ((beq_self_eq_true _) : (((xr : Int) == xr)) = true)) ?_
            refine cf_go 5 ?_
            refine cf_see 217 (.bool true) (see_bool (by kernel_rfl) ((beq_self_eq_true _) : ((((nr : Nat) : Int) == ((nr : Nat) : Int))) = true)) ?_
            refine cf_go 4 ?_
            refine cf_call 222 26 #[.pointer (some ⟨M2, 0, none⟩), .pointer (some ⟨M4, 0, none⟩)] H25_ (by kernel_rfl) (by kernel_rfl) (by kernel_rfl) (alike_ma maM2H25_ maM4H25_) ?_
            rintro _ _ ⟨rfl, rfl⟩
            refine cf_go 2 ?_
            refine cf_ask 225 (.bool true) 16 #[] (by kernel_rfl) (by kernel_rfl) (by kernel_rfl) ?_
            refine cf_go 5 ?_
            refine cf_end (.bool true) H25_ (by kernel_rfl) (by kernel_rfl) (by kernel_rfl) ?_
            rfl
        · skip
          refine cf_go 7 ?_
          refine cf_see 129 (.bool false) (see_bool (by kernel_rfl) ((decide_eq_false (by omega)) : ((decide (((k : Nat) : Int) < ((ws.length : Nat) : Int)))) = false)) ?_
          refine cf_go 20 ?_
          obtain ⟨m0, hm0⟩ : ∃ m0 : Mach, m0 = m1 := ⟨_, rfl⟩
          have q2 := maM2; have q4 := maM4
          rw [← hm0] at q2 q4
          refine cf_loop 227 (cl (cl (cr (cl (cr (cr (cr (cr (cr (cr (cr (cr (cr f7b))))))))))))) [.blk 4, .next (cr (cr (cr (cr (cr (cr (cr (cr (cr (cr f7b))))))))))] (by kernel_rfl) (by kernel_rfl) (by kernel_rfl) (fun m9 s9 => ∃ (k : Nat) (m1 : Mach) (H1 : Heap), m9 = 60 - k ∧ k ≤ 60 ∧ MA H1 62 M1 W1 cpM1 m1 ∧ MA H1 62 M2 W2 cpM2 m0 ∧ MA H1 58 M3 W3 cpM3 m1 ∧ MA H1 58 M4 W4 cpM4 m0 ∧ Up H.n H H1 ∧ Kn s9.tm [(4, .int .i64 steps), (12, .pointer (some ⟨M1, 0, none⟩)), (14, .pointer (some ⟨M2, 0, none⟩)), (16, .pointer (some ⟨M3, 0, none⟩)), (17, .pointer (some ⟨M4, 0, none⟩)), (22, .int .i64 ((k : Nat) : Int))] ∧ s9.H = H1) (60) ⟨0, _, H1, by omega, by omega, maM1, q2, maM3, q4, (show Up H.n H H1 from ⟨by omega, fun b hb => by rw [uH1.get _ (by omega)]⟩), ⟨(by kernel_rfl), (by kernel_rfl), (by kernel_rfl), (by kernel_rfl), (by kernel_rfl), (by kernel_rfl), True.intro⟩, (by kernel_rfl)⟩ ?_
          rintro m9 s9 ⟨k, m1, H1, hm, hk, maM1, maM2, maM3, maM4, uH1, hkn, hH⟩ Rr4 hRr4
          refine cf_kn [(4, .int .i64 steps), (12, .pointer (some ⟨M1, 0, none⟩)), (14, .pointer (some ⟨M2, 0, none⟩)), (16, .pointer (some ⟨M3, 0, none⟩)), (17, .pointer (some ⟨M4, 0, none⟩)), (22, .int .i64 ((k : Nat) : Int))] hkn hH fun tm => ?_
          have nH1 := uH1.n
          have bM1 := maM1.mn; have bW1 := maM1.wn; have bM2 := maM2.mn; have bW2 := maM2.wn; have bM3 := maM3.mn; have bW3 := maM3.wn; have bM4 := maM4.mn; have bW4 := maM4.wn
          by_cases hlt : k < 60
          · skip
            rcases hs : m1.step with ⟨w, m2⟩
            refine cf_go 5 ?_
            refine cf_see 176 (.bool true) (see_bool (by kernel_rfl) ((decide_eq_true (by omega)) : ((decide (((k : Nat) : Int) < 60))) = true)) ?_
            refine cf_go 10 ?_
            refine cf_call 180 21 #[.pointer (some ⟨M1, 0, none⟩)] H1 (by kernel_rfl) (by kernel_rfl) (by kernel_rfl) (step_to maM1 hs) ?_
            rintro _ H26_ ⟨rfl, maM1H26_, frH26_⟩
            have uH26_ := frH26_.up (lo := H.n) (M := M1) (W := W1) (by omega) (by omega) (by omega)
            have nH26_ := uH26_.n
            have kH26_ := frH26_.n
            have maM2H26_ := maM2.beside maM1 (by omega) (by omega) frH26_
            have maM3H26_ := maM3.beside maM1 (by omega) (by omega) frH26_
            have maM4H26_ := maM4.beside maM1 (by omega) (by omega) frH26_
            refine cf_go 1 ?_
            refine cf_call 182 25 #[.pointer (some ⟨M3, 0, none⟩)] H26_ (by kernel_rfl) (by kernel_rfl) (by kernel_rfl) (rstep_to maM3H26_ hs) ?_
            rintro _ H27_ ⟨rfl, maM3H27_, frH27_⟩
            have uH27_ := frH27_.up (lo := H.n) (M := M3) (W := W3) (by omega) (by omega) (by omega)
            have nH27_ := uH27_.n
            have kH27_ := frH27_.n
            have maM1H27_ := maM1H26_.beside maM3H26_ (by omega) (by omega) frH27_
            have maM2H27_ := maM2H26_.beside maM3H26_ (by omega) (by omega) frH27_
            have maM4H27_ := maM4H26_.beside maM3H26_ (by omega) (by omega) frH27_
            refine cf_go 1 ?_
            refine cf_see 183 (.bool false) (see_bool (by kernel_rfl) ((bne_self_eq_false _) : (((w : Int) != w)) = false)) ?_
            refine cf_go 3 ?_
            refine cf_call 187 26 #[.pointer (some ⟨M1, 0, none⟩), .pointer (some ⟨M3, 0, none⟩)] H27_ (by kernel_rfl) (by kernel_rfl) (by kernel_rfl) (alike_ma maM1H27_ maM3H27_) ?_
            rintro _ _ ⟨rfl, rfl⟩
            refine cf_go 11 ?_
            refine cf_see 178 (.int .i64 ((k + 1 : Nat) : Int)) (see_int (x := (IntKind.i64.wrap (((k : Nat) : Int) + 1))) (by kernel_rfl) (w64 (by omega) (by omega) (by omega))) ?_
            refine cf_go 2 ?_
            refine cf_inv Rr4 (by kernel_rfl) (hRr4 _ ⟨60 - (k + 1), by omega, k + 1, m2, H27_, rfl, by omega, maM1H27_, maM2H27_, maM3H27_, maM4H27_, (show Up H.n H H27_ from ⟨by omega, fun b hb => by rw [uH27_.get _ (by omega), uH26_.get _ (by omega), uH1.get _ (by omega)]⟩), ⟨(by kernel_rfl), (by kernel_rfl), (by kernel_rfl), (by kernel_rfl), (by kernel_rfl), (by kernel_rfl), True.intro⟩, (by kernel_rfl)⟩)
          · skip
            refine cf_go 5 ?_
            refine cf_see 176 (.bool false) (see_bool (by kernel_rfl) ((decide_eq_false (by omega)) : ((decide (((k : Nat) : Int) < 60))) = false)) ?_
            refine cf_go 11 ?_
            refine cf_call 191 12 #[.int .i64 steps, .int .i64 (-3), .int .i64 100] H1 (by kernel_rfl) (by kernel_rfl) (by kernel_rfl) within_neg ?_
            rintro _ _ ⟨kq, kq0, kq1, rfl, rfl⟩
            refine cf_go 7 ?_
            rcases hR : Mach.run (kq).toNat 0 m0 with ⟨⟨wr, xr, nr⟩, mr⟩
            refine cf_call 195 11 #[.pointer (some ⟨M2, 0, none⟩), .int .i64 kq] H1 (by kernel_rfl) (by kernel_rfl) (by kernel_rfl) (run_is maM2 (by omega) (by omega) hR) ?_
            rintro _ H28_ ⟨rfl, maM2H28_, frH28_⟩
            have uH28_ := frH28_.up (lo := H.n) (M := M2) (W := W2) (by omega) (by omega) (by omega)
            have nH28_ := uH28_.n
            have kH28_ := frH28_.n
            have maM1H28_ := maM1.beside maM2 (by omega) (by omega) frH28_
            have maM3H28_ := maM3.beside maM2 (by omega) (by omega) frH28_
            have maM4H28_ := maM4.beside maM2 (by omega) (by omega) frH28_
            refine cf_go 13 ?_
            refine cf_call 202 27 #[.pointer (some ⟨M4, 0, none⟩), .int .i64 kq] H28_ (by kernel_rfl) (by kernel_rfl) (by kernel_rfl) (rrun_is maM4H28_ (by omega) (by omega) hR) ?_
            rintro _ H29_ ⟨rfl, maM4H29_, frH29_⟩
            have uH29_ := frH29_.up (lo := H.n) (M := M4) (W := W4) (by omega) (by omega) (by omega)
            have nH29_ := uH29_.n
            have kH29_ := frH29_.n
            have maM1H29_ := maM1H28_.beside maM4H28_ (by omega) (by omega) frH29_
            have maM2H29_ := maM2H28_.beside maM4H28_ (by omega) (by omega) frH29_
            have maM3H29_ := maM3H28_.beside maM4H28_ (by omega) (by omega) frH29_
            refine cf_go 14 ?_
            refine cf_see 208 (.bool true) (see_bool (by kernel_rfl) ((beq_self_eq_true _) : (((wr : Int) == wr)) = true)) ?_
            refine cf_go 4 ?_
            refine cf_see 212 (.bool true) (see_bool (by kernel_rfl) ((beq_self_eq_true _) : (((xr : Int) == xr)) = true)) ?_
            refine cf_go 5 ?_
            refine cf_see 217 (.bool true) (see_bool (by kernel_rfl) ((beq_self_eq_true _) : ((((nr : Nat) : Int) == ((nr : Nat) : Int))) = true)) ?_
            refine cf_go 4 ?_
            refine cf_call 222 26 #[.pointer (some ⟨M2, 0, none⟩), .pointer (some ⟨M4, 0, none⟩)] H29_ (by kernel_rfl) (by kernel_rfl) (by kernel_rfl) (alike_ma maM2H29_ maM4H29_) ?_
            rintro _ _ ⟨rfl, rfl⟩
            refine cf_go 2 ?_
            refine cf_ask 225 (.bool true) 16 #[] (by kernel_rfl) (by kernel_rfl) (by kernel_rfl) ?_
            refine cf_go 5 ?_
            refine cf_end (.bool true) H29_ (by kernel_rfl) (by kernel_rfl) (by kernel_rfl) ?_
            rfl
    · skip
      refine cf_go 7 ?_
      refine cf_see 88 (.bool false) (see_bool (by kernel_rfl) ((decide_eq_false (by omega)) : ((decide (((k : Nat) : Int) < ((rs.length : Nat) : Int)))) = false)) ?_
      refine cf_go 19 ?_
      refine cf_loop 227 (cl (cl (cr (cl (cr (cr (cr (cr (cr (cr (cr (cr f7b)))))))))))) [.blk 2, .next (cr (cr (cr (cr (cr (cr (cr (cr (cr f7b)))))))))] (by kernel_rfl) (by kernel_rfl) (by kernel_rfl) (fun m9 s9 => ∃ (k : Nat) (m1 : Mach) (H1 : Heap), m9 = ws.length - k ∧ k ≤ ws.length ∧ m1.Wd.length = 8 ∧ MA H1 62 M1 W1 cpM1 m1 ∧ MA H1 62 M2 W2 cpM2 m1 ∧ MA H1 58 M3 W3 cpM3 m1 ∧ MA H1 58 M4 W4 cpM4 m1 ∧ Up H.n H H1 ∧ Kn s9.tm [(2, (.slice pt2 ws.length cap2)), (3, .bool t), (4, .int .i64 steps), (11, .int .i64 8), (12, .pointer (some ⟨M1, 0, none⟩)), (14, .pointer (some ⟨M2, 0, none⟩)), (16, .pointer (some ⟨M3, 0, none⟩)), (17, .pointer (some ⟨M4, 0, none⟩)), (21, .int .i64 ((k : Nat) : Int))] ∧ s9.H = H1) (ws.length) ⟨0, _, H1, by omega, by omega, hWl, maM1, maM2, maM3, maM4, (show Up H.n H H1 from ⟨by omega, fun b hb => by rw [uH1.get _ (by omega)]⟩), ⟨(by kernel_rfl), (by kernel_rfl), (by kernel_rfl), (by kernel_rfl), (by kernel_rfl), (by kernel_rfl), (by kernel_rfl), (by kernel_rfl), (by kernel_rfl), True.intro⟩, (by kernel_rfl)⟩ ?_
      rintro m9 s9 ⟨k, m1, H1, hm, hk, hWl, maM1, maM2, maM3, maM4, uH1, hkn, hH⟩ Rr5 hRr5
      refine cf_kn [(2, (.slice pt2 ws.length cap2)), (3, .bool t), (4, .int .i64 steps), (11, .int .i64 8), (12, .pointer (some ⟨M1, 0, none⟩)), (14, .pointer (some ⟨M2, 0, none⟩)), (16, .pointer (some ⟨M3, 0, none⟩)), (17, .pointer (some ⟨M4, 0, none⟩)), (21, .int .i64 ((k : Nat) : Int))] hkn hH fun tm => ?_
      have nH1 := uH1.n
      have bM1 := maM1.mn; have bW1 := maM1.wn; have bM2 := maM2.mn; have bW2 := maM2.wn; have bM3 := maM3.mn; have bW3 := maM3.wn; have bM4 := maM4.mn; have bW4 := maM4.wn
      by_cases hlt : k < ws.length ∧ k < 8
      · skip
        obtain ⟨x, hx⟩ : ∃ x, ws[k]? = some x := ⟨_, List.getElem?_eq_getElem hlt.1⟩
        obtain ⟨x0, x1⟩ := hws _ (List.mem_of_getElem? hx)
        rcases hN2.at_ with ⟨_, _, h0⟩ | ⟨A, off, cap, cells, e, ro, he, gA, hAn, hA⟩
        · rw [h0] at hlt; simp at hlt
        obtain ⟨rfl, rfl⟩ : pt2 = some ⟨A, off, none⟩ ∧ cap2 = cap := by injection he with e1 _ e3; exact ⟨e1, e3⟩
        have cx : cells[off + k * 1]? = some (.int .u32 x) := by have := hA k hlt.1; rw [List.getElem?_eq_getElem hlt.1] at hx; rw [this, Option.some.inj hx]
        refine cf_go 7 ?_
        refine cf_see 129 (.bool true) (see_bool (by kernel_rfl) ((decide_eq_true (by omega)) : ((decide (((k : Nat) : Int) < ((ws.length : Nat) : Int)))) = true)) ?_
        refine cf_go 4 ?_
        refine cf_see 133 (.bool true) (see_bool (by kernel_rfl) ((decide_eq_true (by omega)) : ((decide (((k : Nat) : Int) < 8))) = true)) ?_
        refine cf_go 15 ?_
        refine cf_val 141 (.pointer (some ⟨A, off + k * 1, none⟩)) H1 (by kernel_rfl) ((by kernel_rfl : _ = val (bif (k : Nat).blt ws.length then some (.pointer (some ⟨A, off + k * 1, none⟩)) else none) H1).trans (by rw [show (k : Nat).blt ws.length = true from (by rw [blt_dec]; simp only [decide_eq_true_eq]; omega)]; rfl)) ?_
        have gH1A : H1.get (A) = some ⟨cells, e, ro⟩ := by rw [uH1.get _ (by omega)]; exact gA
        refine cf_val 142 (.int .u32 x) H1 (by kernel_rfl) ((by kernel_rfl : _ = val (aload T8 30 (.pointer (some ⟨A, off + k * 1, none⟩)) H1) H1).trans (val_of ((aload_at gH1A).trans (aloadC_cellB (n := 1) (by kernel_rfl) (by kernel_rfl) cx)))) ?_
        refine cf_call 143 24 #[.pointer (some ⟨M1, 0, none⟩), .int .i64 ((k : Nat) : Int), .int .u32 x] H1 (by kernel_rfl) (by kernel_rfl) (by kernel_rfl) (setword_ma maM1 (k := k) (v := x) (by first | omega | (rw [hW8]; omega)) (by omega) (by omega)) ?_
        rintro _ H30_ ⟨rfl, maM1H30_, frH30_⟩
        have uH30_ := frH30_.up (lo := H.n) (M := M1) (W := W1) (by omega) (by omega) (by omega)
        have nH30_ := uH30_.n
        have kH30_ := frH30_.n
        have maM2H30_ := maM2.beside maM1 (by omega) (by omega) frH30_
        have maM3H30_ := maM3.beside maM1 (by omega) (by omega) frH30_
        have maM4H30_ := maM4.beside maM1 (by omega) (by omega) frH30_
        refine cf_go 6 ?_
        refine cf_val 150 (.pointer (some ⟨A, off + k * 1, none⟩)) H30_ (by kernel_rfl) ((by kernel_rfl : _ = val (bif (k : Nat).blt ws.length then some (.pointer (some ⟨A, off + k * 1, none⟩)) else none) H30_).trans (by rw [show (k : Nat).blt ws.length = true from (by rw [blt_dec]; simp only [decide_eq_true_eq]; omega)]; rfl)) ?_
        have gH30_A : H30_.get (A) = some ⟨cells, e, ro⟩ := by rw [uH30_.get _ (by omega)]; exact gH1A
        refine cf_val 151 (.int .u32 x) H30_ (by kernel_rfl) ((by kernel_rfl : _ = val (aload T8 30 (.pointer (some ⟨A, off + k * 1, none⟩)) H30_) H30_).trans (val_of ((aload_at gH30_A).trans (aloadC_cellB (n := 1) (by kernel_rfl) (by kernel_rfl) cx)))) ?_
        refine cf_call 152 24 #[.pointer (some ⟨M2, 0, none⟩), .int .i64 ((k : Nat) : Int), .int .u32 x] H30_ (by kernel_rfl) (by kernel_rfl) (by kernel_rfl) (setword_ma maM2H30_ (k := k) (v := x) (by first | omega | (rw [hW8]; omega)) (by omega) (by omega)) ?_
        rintro _ H31_ ⟨rfl, maM2H31_, frH31_⟩
        have uH31_ := frH31_.up (lo := H.n) (M := M2) (W := W2) (by omega) (by omega) (by omega)
        have nH31_ := uH31_.n
        have kH31_ := frH31_.n
        have maM1H31_ := maM1H30_.beside maM2H30_ (by omega) (by omega) frH31_
        have maM3H31_ := maM3H30_.beside maM2H30_ (by omega) (by omega) frH31_
        have maM4H31_ := maM4H30_.beside maM2H30_ (by omega) (by omega) frH31_
        refine cf_go 11 ?_
        refine cf_val 158 (.slice (some ⟨W3, 0, none⟩) m1.Wd.length m1.Wd.length) H31_ (by kernel_rfl) ((by kernel_rfl : _ = val (aload T8 56 (.pointer (some ⟨M3, 16, none⟩)) H31_) H31_).trans (val_of ((aload_at maM3H31_.hM).trans (aloadC_cellB (n := 1) (by kernel_rfl) (by kernel_rfl) (mc_16 maM3H31_.r16))))) ?_
        refine cf_go 4 ?_
        refine cf_val 163 (.slice (some ⟨W4, 0, none⟩) m1.Wd.length m1.Wd.length) H31_ (by kernel_rfl) ((by kernel_rfl : _ = val (aload T8 56 (.pointer (some ⟨M4, 16, none⟩)) H31_) H31_).trans (val_of ((aload_at maM4H31_.hM).trans (aloadC_cellB (n := 1) (by kernel_rfl) (by kernel_rfl) (mc_16 maM4H31_.r16))))) ?_
        refine cf_go 3 ?_
        refine cf_val 167 (.pointer (some ⟨A, off + k * 1, none⟩)) H31_ (by kernel_rfl) ((by kernel_rfl : _ = val (bif (k : Nat).blt ws.length then some (.pointer (some ⟨A, off + k * 1, none⟩)) else none) H31_).trans (by rw [show (k : Nat).blt ws.length = true from (by rw [blt_dec]; simp only [decide_eq_true_eq]; omega)]; rfl)) ?_
        have gH31_A : H31_.get (A) = some ⟨cells, e, ro⟩ := by rw [uH31_.get _ (by omega)]; exact gH30_A
        refine cf_val 168 (.int .u32 x) H31_ (by kernel_rfl) ((by kernel_rfl : _ = val (aload T8 30 (.pointer (some ⟨A, off + k * 1, none⟩)) H31_) H31_).trans (val_of ((aload_at gH31_A).trans (aloadC_cellB (n := 1) (by kernel_rfl) (by kernel_rfl) cx)))) ?_
        refine cf_go 2 ?_
        refine cf_val 171 (.pointer (some ⟨A, off + k * 1, none⟩)) H31_ (by kernel_rfl) ((by kernel_rfl : _ = val (bif (k : Nat).blt ws.length then some (.pointer (some ⟨A, off + k * 1, none⟩)) else none) H31_).trans (by rw [show (k : Nat).blt ws.length = true from (by rw [blt_dec]; simp only [decide_eq_true_eq]; omega)]; rfl)) ?_
        refine cf_val 172 (.int .u32 x) H31_ (by kernel_rfl) ((by kernel_rfl : _ = val (aload T8 30 (.pointer (some ⟨A, off + k * 1, none⟩)) H31_) H31_).trans (val_of ((aload_at gH31_A).trans (aloadC_cellB (n := 1) (by kernel_rfl) (by kernel_rfl) cx)))) ?_
        refine cf_val 173 (.pointer (some ⟨W3, 0 + k * 1, none⟩)) H31_ (by kernel_rfl) ((by kernel_rfl : _ = val (bif (k : Nat).blt m1.Wd.length then some (.pointer (some ⟨W3, 0 + k * 1, none⟩)) else none) H31_).trans (by rw [show (k : Nat).blt m1.Wd.length = true from (by rw [blt_dec]; simp only [decide_eq_true_eq]; omega)]; rfl)) ?_
        obtain ⟨H32_, hhH32_⟩ : ∃ Hx : Heap, Hx = H31_.put (W3) ⟨(m1.Wd.set k x).map (Value.int .u32), 30, false⟩ := ⟨_, rfl⟩
        have hstH32_ := MA.store_word maM3H31_ (k := k) (v := x) (by omega) (by omega)
        rw [← hhH32_] at hstH32_
        obtain ⟨maM3H32_, frH32_⟩ := hstH32_
        refine cf_skip H32_ (by kernel_rfl) ((by kernel_rfl : _ = skp (astore T8 30 (.pointer (some ⟨W3, 0 + k * 1, none⟩)) (.int .u32 x) H31_)).trans (by rw [(astore_to maM3H31_.hW ((astoreC_one (by kernel_rfl) rfl rfl (by rw [List.length_map]; omega)).trans (congrArg some (mw_s _ _))))]; show some (Res.skip, H31_.put _ _) = _; rw [hhH32_]; try rfl)) ?_
        have uH32_ := frH32_.up (lo := H.n) (M := M3) (W := W3) (by omega) (by omega) (by omega)
        have nH32_ := uH32_.n
        have kH32_ := frH32_.n
        have maM1H32_ := maM1H31_.beside maM3H31_ (by omega) (by omega) frH32_
        have maM2H32_ := maM2H31_.beside maM3H31_ (by omega) (by omega) frH32_
        have maM4H32_ := maM4H31_.beside maM3H31_ (by omega) (by omega) frH32_
        refine cf_val 174 (.pointer (some ⟨W4, 0 + k * 1, none⟩)) H32_ (by kernel_rfl) ((by kernel_rfl : _ = val (bif (k : Nat).blt m1.Wd.length then some (.pointer (some ⟨W4, 0 + k * 1, none⟩)) else none) H32_).trans (by rw [show (k : Nat).blt m1.Wd.length = true from (by rw [blt_dec]; simp only [decide_eq_true_eq]; omega)]; rfl)) ?_
        obtain ⟨H33_, hhH33_⟩ : ∃ Hx : Heap, Hx = H32_.put (W4) ⟨(m1.Wd.set k x).map (Value.int .u32), 30, false⟩ := ⟨_, rfl⟩
        have hstH33_ := MA.store_word maM4H32_ (k := k) (v := x) (by omega) (by omega)
        rw [← hhH33_] at hstH33_
        obtain ⟨maM4H33_, frH33_⟩ := hstH33_
        refine cf_skip H33_ (by kernel_rfl) ((by kernel_rfl : _ = skp (astore T8 30 (.pointer (some ⟨W4, 0 + k * 1, none⟩)) (.int .u32 x) H32_)).trans (by rw [(astore_to maM4H32_.hW ((astoreC_one (by kernel_rfl) rfl rfl (by rw [List.length_map]; omega)).trans (congrArg some (mw_s _ _))))]; show some (Res.skip, H32_.put _ _) = _; rw [hhH33_]; try rfl)) ?_
        have uH33_ := frH33_.up (lo := H.n) (M := M4) (W := W4) (by omega) (by omega) (by omega)
        have nH33_ := uH33_.n
        have kH33_ := frH33_.n
        have maM1H33_ := maM1H32_.beside maM4H32_ (by omega) (by omega) frH33_
        have maM2H33_ := maM2H32_.beside maM4H32_ (by omega) (by omega) frH33_
        have maM3H33_ := maM3H32_.beside maM4H32_ (by omega) (by omega) frH33_
        refine cf_go 6 ?_
        refine cf_see 136 (.int .i64 ((k + 1 : Nat) : Int)) (see_int (x := (IntKind.i64.wrap (((k : Nat) : Int) + 1))) (by kernel_rfl) (w64 (by omega) (by omega) (by omega))) ?_
        refine cf_go 2 ?_
        refine cf_inv Rr5 (by kernel_rfl) (hRr5 _ ⟨ws.length - (k + 1), by omega, k + 1, (⟨m1.R, m1.Wd.set k x, m1.C, m1.pc⟩ : Mach), H33_, rfl, by omega, (by simpa using hWl), maM1H33_, maM2H33_, maM3H33_, maM4H33_, (show Up H.n H H33_ from ⟨by omega, fun b hb => by rw [uH33_.get _ (by omega), uH32_.get _ (by omega), uH31_.get _ (by omega), uH30_.get _ (by omega), uH1.get _ (by omega)]⟩), ⟨(by kernel_rfl), (by kernel_rfl), (by kernel_rfl), (by kernel_rfl), (by kernel_rfl), (by kernel_rfl), (by kernel_rfl), (by kernel_rfl), (by kernel_rfl), True.intro⟩, (by kernel_rfl)⟩)
      · skip
        by_cases hlt2 : k < ws.length
        · skip
          refine cf_go 7 ?_
          refine cf_see 129 (.bool true) (see_bool (by kernel_rfl) ((decide_eq_true (by omega)) : ((decide (((k : Nat) : Int) < ((ws.length : Nat) : Int)))) = true)) ?_
          refine cf_go 4 ?_
          refine cf_see 133 (.bool false) (see_bool (by kernel_rfl) ((decide_eq_false (by omega)) : ((decide (((k : Nat) : Int) < 8))) = false)) ?_
          refine cf_go 16 ?_
          obtain ⟨m0, hm0⟩ : ∃ m0 : Mach, m0 = m1 := ⟨_, rfl⟩
          have q2 := maM2; have q4 := maM4
          rw [← hm0] at q2 q4
          refine cf_loop 227 (cl (cl (cr (cl (cr (cr (cr (cr (cr (cr (cr (cr (cr f7b))))))))))))) [.blk 4, .next (cr (cr (cr (cr (cr (cr (cr (cr (cr (cr f7b))))))))))] (by kernel_rfl) (by kernel_rfl) (by kernel_rfl) (fun m9 s9 => ∃ (k : Nat) (m1 : Mach) (H1 : Heap), m9 = 60 - k ∧ k ≤ 60 ∧ MA H1 62 M1 W1 cpM1 m1 ∧ MA H1 62 M2 W2 cpM2 m0 ∧ MA H1 58 M3 W3 cpM3 m1 ∧ MA H1 58 M4 W4 cpM4 m0 ∧ Up H.n H H1 ∧ Kn s9.tm [(4, .int .i64 steps), (12, .pointer (some ⟨M1, 0, none⟩)), (14, .pointer (some ⟨M2, 0, none⟩)), (16, .pointer (some ⟨M3, 0, none⟩)), (17, .pointer (some ⟨M4, 0, none⟩)), (22, .int .i64 ((k : Nat) : Int))] ∧ s9.H = H1) (60) ⟨0, _, H1, by omega, by omega, maM1, q2, maM3, q4, (show Up H.n H H1 from ⟨by omega, fun b hb => by rw [uH1.get _ (by omega)]⟩), ⟨(by kernel_rfl), (by kernel_rfl), (by kernel_rfl), (by kernel_rfl), (by kernel_rfl), (by kernel_rfl), True.intro⟩, (by kernel_rfl)⟩ ?_
          rintro m9 s9 ⟨k, m1, H1, hm, hk, maM1, maM2, maM3, maM4, uH1, hkn, hH⟩ Rr6 hRr6
          refine cf_kn [(4, .int .i64 steps), (12, .pointer (some ⟨M1, 0, none⟩)), (14, .pointer (some ⟨M2, 0, none⟩)), (16, .pointer (some ⟨M3, 0, none⟩)), (17, .pointer (some ⟨M4, 0, none⟩)), (22, .int .i64 ((k : Nat) : Int))] hkn hH fun tm => ?_
          have nH1 := uH1.n
          have bM1 := maM1.mn; have bW1 := maM1.wn; have bM2 := maM2.mn; have bW2 := maM2.wn; have bM3 := maM3.mn; have bW3 := maM3.wn; have bM4 := maM4.mn; have bW4 := maM4.wn
          by_cases hlt : k < 60
          · skip
            rcases hs : m1.step with ⟨w, m2⟩
            refine cf_go 5 ?_
            refine cf_see 176 (.bool true) (see_bool (by kernel_rfl) ((decide_eq_true (by omega)) : ((decide (((k : Nat) : Int) < 60))) = true)) ?_
            refine cf_go 10 ?_
            refine cf_call 180 21 #[.pointer (some ⟨M1, 0, none⟩)] H1 (by kernel_rfl) (by kernel_rfl) (by kernel_rfl) (step_to maM1 hs) ?_
            rintro _ H34_ ⟨rfl, maM1H34_, frH34_⟩
            have uH34_ := frH34_.up (lo := H.n) (M := M1) (W := W1) (by omega) (by omega) (by omega)
            have nH34_ := uH34_.n
            have kH34_ := frH34_.n
            have maM2H34_ := maM2.beside maM1 (by omega) (by omega) frH34_
            have maM3H34_ := maM3.beside maM1 (by omega) (by omega) frH34_
            have maM4H34_ := maM4.beside maM1 (by omega) (by omega) frH34_
            refine cf_go 1 ?_
            refine cf_call 182 25 #[.pointer (some ⟨M3, 0, none⟩)] H34_ (by kernel_rfl) (by kernel_rfl) (by kernel_rfl) (rstep_to maM3H34_ hs) ?_
            rintro _ H35_ ⟨rfl, maM3H35_, frH35_⟩
            have uH35_ := frH35_.up (lo := H.n) (M := M3) (W := W3) (by omega) (by omega) (by omega)
            have nH35_ := uH35_.n
            have kH35_ := frH35_.n
            have maM1H35_ := maM1H34_.beside maM3H34_ (by omega) (by omega) frH35_
            have maM2H35_ := maM2H34_.beside maM3H34_ (by omega) (by omega) frH35_
            have maM4H35_ := maM4H34_.beside maM3H34_ (by omega) (by omega) frH35_
            refine cf_go 1 ?_
            refine cf_see 183 (.bool false) (see_bool (by kernel_rfl) ((bne_self_eq_false _) : (((w : Int) != w)) = false)) ?_
            refine cf_go 3 ?_
            refine cf_call 187 26 #[.pointer (some ⟨M1, 0, none⟩), .pointer (some ⟨M3, 0, none⟩)] H35_ (by kernel_rfl) (by kernel_rfl) (by kernel_rfl) (alike_ma maM1H35_ maM3H35_) ?_
            rintro _ _ ⟨rfl, rfl⟩
            refine cf_go 11 ?_
            refine cf_see 178 (.int .i64 ((k + 1 : Nat) : Int)) (see_int (x := (IntKind.i64.wrap (((k : Nat) : Int) + 1))) (by kernel_rfl) (w64 (by omega) (by omega) (by omega))) ?_
            refine cf_go 2 ?_
            refine cf_inv Rr6 (by kernel_rfl) (hRr6 _ ⟨60 - (k + 1), by omega, k + 1, m2, H35_, rfl, by omega, maM1H35_, maM2H35_, maM3H35_, maM4H35_, (show Up H.n H H35_ from ⟨by omega, fun b hb => by rw [uH35_.get _ (by omega), uH34_.get _ (by omega), uH1.get _ (by omega)]⟩), ⟨(by kernel_rfl), (by kernel_rfl), (by kernel_rfl), (by kernel_rfl), (by kernel_rfl), (by kernel_rfl), True.intro⟩, (by kernel_rfl)⟩)
          · skip
            refine cf_go 5 ?_
            refine cf_see 176 (.bool false) (see_bool (by kernel_rfl) ((decide_eq_false (by omega)) : ((decide (((k : Nat) : Int) < 60))) = false)) ?_
            refine cf_go 11 ?_
            refine cf_call 191 12 #[.int .i64 steps, .int .i64 (-3), .int .i64 100] H1 (by kernel_rfl) (by kernel_rfl) (by kernel_rfl) within_neg ?_
            rintro _ _ ⟨kq, kq0, kq1, rfl, rfl⟩
            refine cf_go 7 ?_
            rcases hR : Mach.run (kq).toNat 0 m0 with ⟨⟨wr, xr, nr⟩, mr⟩
            refine cf_call 195 11 #[.pointer (some ⟨M2, 0, none⟩), .int .i64 kq] H1 (by kernel_rfl) (by kernel_rfl) (by kernel_rfl) (run_is maM2 (by omega) (by omega) hR) ?_
            rintro _ H36_ ⟨rfl, maM2H36_, frH36_⟩
            have uH36_ := frH36_.up (lo := H.n) (M := M2) (W := W2) (by omega) (by omega) (by omega)
            have nH36_ := uH36_.n
            have kH36_ := frH36_.n
            have maM1H36_ := maM1.beside maM2 (by omega) (by omega) frH36_
            have maM3H36_ := maM3.beside maM2 (by omega) (by omega) frH36_
            have maM4H36_ := maM4.beside maM2 (by omega) (by omega) frH36_
            refine cf_go 13 ?_
            refine cf_call 202 27 #[.pointer (some ⟨M4, 0, none⟩), .int .i64 kq] H36_ (by kernel_rfl) (by kernel_rfl) (by kernel_rfl) (rrun_is maM4H36_ (by omega) (by omega) hR) ?_
            rintro _ H37_ ⟨rfl, maM4H37_, frH37_⟩
            have uH37_ := frH37_.up (lo := H.n) (M := M4) (W := W4) (by omega) (by omega) (by omega)
            have nH37_ := uH37_.n
            have kH37_ := frH37_.n
            have maM1H37_ := maM1H36_.beside maM4H36_ (by omega) (by omega) frH37_
            have maM2H37_ := maM2H36_.beside maM4H36_ (by omega) (by omega) frH37_
            have maM3H37_ := maM3H36_.beside maM4H36_ (by omega) (by omega) frH37_
            refine cf_go 14 ?_
            refine cf_see 208 (.bool true) (see_bool (by kernel_rfl) ((beq_self_eq_true _) : (((wr : Int) == wr)) = true)) ?_
            refine cf_go 4 ?_
            refine cf_see 212 (.bool true) (see_bool (by kernel_rfl) ((beq_self_eq_true _) : (((xr : Int) == xr)) = true)) ?_
            refine cf_go 5 ?_
            refine cf_see 217 (.bool true) (see_bool (by kernel_rfl) ((beq_self_eq_true _) : ((((nr : Nat) : Int) == ((nr : Nat) : Int))) = true)) ?_
            refine cf_go 4 ?_
            refine cf_call 222 26 #[.pointer (some ⟨M2, 0, none⟩), .pointer (some ⟨M4, 0, none⟩)] H37_ (by kernel_rfl) (by kernel_rfl) (by kernel_rfl) (alike_ma maM2H37_ maM4H37_) ?_
            rintro _ _ ⟨rfl, rfl⟩
            refine cf_go 2 ?_
            refine cf_ask 225 (.bool true) 16 #[] (by kernel_rfl) (by kernel_rfl) (by kernel_rfl) ?_
            refine cf_go 5 ?_
            refine cf_end (.bool true) H37_ (by kernel_rfl) (by kernel_rfl) (by kernel_rfl) ?_
            rfl
        · skip
          refine cf_go 7 ?_
          refine cf_see 129 (.bool false) (see_bool (by kernel_rfl) ((decide_eq_false (by omega)) : ((decide (((k : Nat) : Int) < ((ws.length : Nat) : Int)))) = false)) ?_
          refine cf_go 20 ?_
          obtain ⟨m0, hm0⟩ : ∃ m0 : Mach, m0 = m1 := ⟨_, rfl⟩
          have q2 := maM2; have q4 := maM4
          rw [← hm0] at q2 q4
          refine cf_loop 227 (cl (cl (cr (cl (cr (cr (cr (cr (cr (cr (cr (cr (cr f7b))))))))))))) [.blk 4, .next (cr (cr (cr (cr (cr (cr (cr (cr (cr (cr f7b))))))))))] (by kernel_rfl) (by kernel_rfl) (by kernel_rfl) (fun m9 s9 => ∃ (k : Nat) (m1 : Mach) (H1 : Heap), m9 = 60 - k ∧ k ≤ 60 ∧ MA H1 62 M1 W1 cpM1 m1 ∧ MA H1 62 M2 W2 cpM2 m0 ∧ MA H1 58 M3 W3 cpM3 m1 ∧ MA H1 58 M4 W4 cpM4 m0 ∧ Up H.n H H1 ∧ Kn s9.tm [(4, .int .i64 steps), (12, .pointer (some ⟨M1, 0, none⟩)), (14, .pointer (some ⟨M2, 0, none⟩)), (16, .pointer (some ⟨M3, 0, none⟩)), (17, .pointer (some ⟨M4, 0, none⟩)), (22, .int .i64 ((k : Nat) : Int))] ∧ s9.H = H1) (60) ⟨0, _, H1, by omega, by omega, maM1, q2, maM3, q4, (show Up H.n H H1 from ⟨by omega, fun b hb => by rw [uH1.get _ (by omega)]⟩), ⟨(by kernel_rfl), (by kernel_rfl), (by kernel_rfl), (by kernel_rfl), (by kernel_rfl), (by kernel_rfl), True.intro⟩, (by kernel_rfl)⟩ ?_
          rintro m9 s9 ⟨k, m1, H1, hm, hk, maM1, maM2, maM3, maM4, uH1, hkn, hH⟩ Rr7 hRr7
          refine cf_kn [(4, .int .i64 steps), (12, .pointer (some ⟨M1, 0, none⟩)), (14, .pointer (some ⟨M2, 0, none⟩)), (16, .pointer (some ⟨M3, 0, none⟩)), (17, .pointer (some ⟨M4, 0, none⟩)), (22, .int .i64 ((k : Nat) : Int))] hkn hH fun tm => ?_
          have nH1 := uH1.n
          have bM1 := maM1.mn; have bW1 := maM1.wn; have bM2 := maM2.mn; have bW2 := maM2.wn; have bM3 := maM3.mn; have bW3 := maM3.wn; have bM4 := maM4.mn; have bW4 := maM4.wn
          by_cases hlt : k < 60
          · skip
            rcases hs : m1.step with ⟨w, m2⟩
            refine cf_go 5 ?_
            refine cf_see 176 (.bool true) (see_bool (by kernel_rfl) ((decide_eq_true (by omega)) : ((decide (((k : Nat) : Int) < 60))) = true)) ?_
            refine cf_go 10 ?_
            refine cf_call 180 21 #[.pointer (some ⟨M1, 0, none⟩)] H1 (by kernel_rfl) (by kernel_rfl) (by kernel_rfl) (step_to maM1 hs) ?_
            rintro _ H38_ ⟨rfl, maM1H38_, frH38_⟩
            have uH38_ := frH38_.up (lo := H.n) (M := M1) (W := W1) (by omega) (by omega) (by omega)
            have nH38_ := uH38_.n
            have kH38_ := frH38_.n
            have maM2H38_ := maM2.beside maM1 (by omega) (by omega) frH38_
            have maM3H38_ := maM3.beside maM1 (by omega) (by omega) frH38_
            have maM4H38_ := maM4.beside maM1 (by omega) (by omega) frH38_
            refine cf_go 1 ?_
            refine cf_call 182 25 #[.pointer (some ⟨M3, 0, none⟩)] H38_ (by kernel_rfl) (by kernel_rfl) (by kernel_rfl) (rstep_to maM3H38_ hs) ?_
            rintro _ H39_ ⟨rfl, maM3H39_, frH39_⟩
            have uH39_ := frH39_.up (lo := H.n) (M := M3) (W := W3) (by omega) (by omega) (by omega)
            have nH39_ := uH39_.n
            have kH39_ := frH39_.n
            have maM1H39_ := maM1H38_.beside maM3H38_ (by omega) (by omega) frH39_
            have maM2H39_ := maM2H38_.beside maM3H38_ (by omega) (by omega) frH39_
            have maM4H39_ := maM4H38_.beside maM3H38_ (by omega) (by omega) frH39_
            refine cf_go 1 ?_
            refine cf_see 183 (.bool false) (see_bool (by kernel_rfl) ((bne_self_eq_false _) : (((w : Int) != w)) = false)) ?_
            refine cf_go 3 ?_
            refine cf_call 187 26 #[.pointer (some ⟨M1, 0, none⟩), .pointer (some ⟨M3, 0, none⟩)] H39_ (by kernel_rfl) (by kernel_rfl) (by kernel_rfl) (alike_ma maM1H39_ maM3H39_) ?_
            rintro _ _ ⟨rfl, rfl⟩
            refine cf_go 11 ?_
            refine cf_see 178 (.int .i64 ((k + 1 : Nat) : Int)) (see_int (x := (IntKind.i64.wrap (((k : Nat) : Int) + 1))) (by kernel_rfl) (w64 (by omega) (by omega) (by omega))) ?_
            refine cf_go 2 ?_
            refine cf_inv Rr7 (by kernel_rfl) (hRr7 _ ⟨60 - (k + 1), by omega, k + 1, m2, H39_, rfl, by omega, maM1H39_, maM2H39_, maM3H39_, maM4H39_, (show Up H.n H H39_ from ⟨by omega, fun b hb => by rw [uH39_.get _ (by omega), uH38_.get _ (by omega), uH1.get _ (by omega)]⟩), ⟨(by kernel_rfl), (by kernel_rfl), (by kernel_rfl), (by kernel_rfl), (by kernel_rfl), (by kernel_rfl), True.intro⟩, (by kernel_rfl)⟩)
          · skip
            refine cf_go 5 ?_
            refine cf_see 176 (.bool false) (see_bool (by kernel_rfl) ((decide_eq_false (by omega)) : ((decide (((k : Nat) : Int) < 60))) = false)) ?_
            refine cf_go 11 ?_
            refine cf_call 191 12 #[.int .i64 steps, .int .i64 (-3), .int .i64 100] H1 (by kernel_rfl) (by kernel_rfl) (by kernel_rfl) within_neg ?_
            rintro _ _ ⟨kq, kq0, kq1, rfl, rfl⟩
            refine cf_go 7 ?_
            rcases hR : Mach.run (kq).toNat 0 m0 with ⟨⟨wr, xr, nr⟩, mr⟩
            refine cf_call 195 11 #[.pointer (some ⟨M2, 0, none⟩), .int .i64 kq] H1 (by kernel_rfl) (by kernel_rfl) (by kernel_rfl) (run_is maM2 (by omega) (by omega) hR) ?_
            rintro _ H40_ ⟨rfl, maM2H40_, frH40_⟩
            have uH40_ := frH40_.up (lo := H.n) (M := M2) (W := W2) (by omega) (by omega) (by omega)
            have nH40_ := uH40_.n
            have kH40_ := frH40_.n
            have maM1H40_ := maM1.beside maM2 (by omega) (by omega) frH40_
            have maM3H40_ := maM3.beside maM2 (by omega) (by omega) frH40_
            have maM4H40_ := maM4.beside maM2 (by omega) (by omega) frH40_
            refine cf_go 13 ?_
            refine cf_call 202 27 #[.pointer (some ⟨M4, 0, none⟩), .int .i64 kq] H40_ (by kernel_rfl) (by kernel_rfl) (by kernel_rfl) (rrun_is maM4H40_ (by omega) (by omega) hR) ?_
            rintro _ H41_ ⟨rfl, maM4H41_, frH41_⟩
            have uH41_ := frH41_.up (lo := H.n) (M := M4) (W := W4) (by omega) (by omega) (by omega)
            have nH41_ := uH41_.n
            have kH41_ := frH41_.n
            have maM1H41_ := maM1H40_.beside maM4H40_ (by omega) (by omega) frH41_
            have maM2H41_ := maM2H40_.beside maM4H40_ (by omega) (by omega) frH41_
            have maM3H41_ := maM3H40_.beside maM4H40_ (by omega) (by omega) frH41_
            refine cf_go 14 ?_
            refine cf_see 208 (.bool true) (see_bool (by kernel_rfl) ((beq_self_eq_true _) : (((wr : Int) == wr)) = true)) ?_
            refine cf_go 4 ?_
            refine cf_see 212 (.bool true) (see_bool (by kernel_rfl) ((beq_self_eq_true _) : (((xr : Int) == xr)) = true)) ?_
            refine cf_go 5 ?_
            refine cf_see 217 (.bool true) (see_bool (by kernel_rfl) ((beq_self_eq_true _) : ((((nr : Nat) : Int) == ((nr : Nat) : Int))) = true)) ?_
            refine cf_go 4 ?_
            refine cf_call 222 26 #[.pointer (some ⟨M2, 0, none⟩), .pointer (some ⟨M4, 0, none⟩)] H41_ (by kernel_rfl) (by kernel_rfl) (by kernel_rfl) (alike_ma maM2H41_ maM4H41_) ?_
            rintro _ _ ⟨rfl, rfl⟩
            refine cf_go 2 ?_
            refine cf_ask 225 (.bool true) 16 #[] (by kernel_rfl) (by kernel_rfl) (by kernel_rfl) ?_
            refine cf_go 5 ?_
            refine cf_end (.bool true) H41_ (by kernel_rfl) (by kernel_rfl) (by kernel_rfl) ?_
            rfl
end Hm
end Go.Proofs.Ytjhijpfbokklcaa
