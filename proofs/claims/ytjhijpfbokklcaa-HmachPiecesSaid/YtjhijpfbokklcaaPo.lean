/- Chapter 4: bytes cut; the machine and its code, held together. -/
import Derived.Test.YtjhijpfbokklcaaPl
import Derived.Test.YtjhijpfbokklcaaPn
import Derived.Test.YtjhijpfbokklcaaPm
namespace Go.Proofs.Ytjhijpfbokklcaa
open Go Go.Ev Go.RowKit
set_option linter.unusedVariables false
set_option linter.unusedSimpArgs false
set_option maxRecDepth 100000
namespace Hm
noncomputable def f14b : Code := Try.f14.body.getD .skip
theorem f14_body : Try.f14.body = some f14b := by kernel_rfl
theorem f14_fn : T8.fn 14 = some Try.f14 := by kernel_rfl
theorem cut_long {H H0 : Heap} {pt : Option Addr} {cap n : Nat} {l : List Int} (hB : Byts H0 (.slice pt l.length cap) l) (hC : CapV pt l.length cap) (hn : n < l.length) : ACall Try.prog T8 14 #[.slice pt l.length cap, .int .i64 ((n : Nat) : Int)] H fun r H' => ∃ pt' cap', r = .slice pt' (l.take n).length cap' ∧ Byts H0 (.slice pt' (l.take n).length cap') (l.take n) ∧ CapV pt' (l.take n).length cap' ∧ H = H' := by
  refine acall_cf 13 (initTm 0 #[(.slice pt l.length cap), .int .i64 ((n : Nat) : Int)]) rfl f14_fn f14_body rfl rfl ?_
  refine cf_go 12 ?_
  refine cf_see 8 (.bool true) (see_bool (by kernel_rfl) ((decide_eq_true (by omega)) : ((decide (((l.length : Nat) : Int) > ((n : Nat) : Int)))) = true)) ?_
  refine cf_go 7 ?_
  obtain ⟨pt1_, cap1_, hs1_, hB1_, hC1_, hP1_⟩ := aslice_byts (T := T8) (t := 23) (e := 5) (by kernel_rfl) (by kernel_rfl) hB hC 0 n (vlo := none) (vhi := (some (.int .i64 (Int.ofNat n)))) (.inl ⟨rfl, rfl⟩) (.inr rfl) (by omega) (by omega)
  rw [List.drop_zero] at hB1_
  refine cf_val 11 (.slice pt1_ (n - 0) cap1_) H (by kernel_rfl) (ha_sl (H := H) (t := 23) (x := .tmp 9) (lo := none) (hi := (some (.tmp 10))) (mx := none) (u := (.slice pt l.length cap)) (l := none) (h := (some (.int .i64 (Int.ofNat n)))) (m := none) (by kernel_rfl) (by kernel_rfl) (by kernel_rfl) (by kernel_rfl) (by kernel_rfl) (by kernel_rfl) hs1_ (by kernel_rfl)) ?_
  refine cf_go 5 ?_
  refine cf_end ((.slice pt1_ (n - 0) cap1_)) H (by kernel_rfl) (by kernel_rfl) (by kernel_rfl) ?_
  have e : (l.take n).length = n - 0 := by simp; omega
  exact ⟨pt1_, cap1_, by rw [e], by rw [e]; exact hB1_, by rw [e]; exact hC1_, rfl⟩
theorem cut_short {H H0 : Heap} {pt : Option Addr} {cap n : Nat} {l : List Int} (hB : Byts H0 (.slice pt l.length cap) l) (hC : CapV pt l.length cap) (hn : l.length ≤ n) : ACall Try.prog T8 14 #[.slice pt l.length cap, .int .i64 ((n : Nat) : Int)] H fun r H' => ∃ pt' cap', r = .slice pt' (l.take n).length cap' ∧ Byts H0 (.slice pt' (l.take n).length cap') (l.take n) ∧ CapV pt' (l.take n).length cap' ∧ H = H' := by
  refine acall_cf 13 (initTm 0 #[(.slice pt l.length cap), .int .i64 ((n : Nat) : Int)]) rfl f14_fn f14_body rfl rfl ?_
  refine cf_go 12 ?_
  refine cf_see 8 (.bool false) (see_bool (by kernel_rfl) ((decide_eq_false (by omega)) : ((decide (((l.length : Nat) : Int) > ((n : Nat) : Int)))) = false)) ?_
  refine cf_go 12 ?_
  refine cf_end ((.slice pt l.length cap)) H (by kernel_rfl) (by kernel_rfl) (by kernel_rfl) ?_
  have e : l.take n = l := List.take_of_length_le (by omega)
  rw [e]
  exact ⟨pt, cap, rfl, hB, hC, rfl⟩
theorem cut_any {H H0 : Heap} {pt : Option Addr} {cap n : Nat} {l : List Int} (hB : Byts H0 (.slice pt l.length cap) l) (hC : CapV pt l.length cap) : ACall Try.prog T8 14 #[.slice pt l.length cap, .int .i64 ((n : Nat) : Int)] H fun r H' => ∃ pt' cap', r = .slice pt' (l.take n).length cap' ∧ Byts H0 (.slice pt' (l.take n).length cap') (l.take n) ∧ CapV pt' (l.take n).length cap' ∧ H = H' := by
  rcases Nat.lt_or_ge n l.length with h | h
  · exact cut_long hB hC h
  · exact cut_short hB hC h
theorem InsA.keep {H H' : Heap} {v : Value} {L : List Ins5} (h : InsA H v L) (hn : H.n ≤ H'.n) (hg : ∀ b, b < H.n → H'.get b = H.get b) : InsA H' v L := by
  rcases h.at_ with h | ⟨A, off, cap, cells, e, ro, h1, gA, hA, hb⟩
  · exact ⟨.inl h⟩
  · exact ⟨.inr ⟨A, off, cap, cells, e, ro, h1, by rw [hg A hA]; exact gA, Nat.lt_of_lt_of_le hA hn, hb⟩⟩
theorem Fr2.up {H H' : Heap} {M W lo : Nat} (f : Fr2 H H' M W) (hM : lo ≤ M) (hW : lo ≤ W) (hl : lo ≤ H.n) : Up lo H H' := ⟨f.n, fun b hb => f.get b (by omega) (by omega) (by omega)⟩
theorem Fr2.of_up {H H' : Heap} {M W : Nat} (u : Up H.n H H') : Fr2 H H' M W := ⟨u.n, fun b hb _ _ => u.get b hb⟩
theorem Gr.beside {H H' : Heap} {ty : TypeId} {M W lo n : Nat} {cp v : Value} {m : Mach} {xs : List Value} (g : Gr H lo 5 1 v n xs) (h : MA H ty M W cp m) (f : Fr2 H H' M W) : Gr H' 0 5 1 v n xs := by
  refine ⟨g.size, ?_⟩
  rcases g.at_ with e | ⟨B, b1, b2, b3, b4⟩
  · exact .inl e
  · refine .inr ⟨B, b1, ?_, Nat.lt_of_lt_of_le b3 f.n, Nat.zero_le _⟩
    rw [f.get B b3 (fun e => ?_) (fun e => ?_)]
    · exact b2
    · have hm := h.hM; have ht := h.hT
      rw [← e, b2] at hm
      injection hm with hm; injection hm with _ hm _
      subst hm; exact absurd ht (by decide)
    · have hm := h.hW
      rw [← e, b2] at hm
      injection hm with hm; injection hm with _ hm _
      cases hm
theorem Gr.up {H H' : Heap} {lo n : Nat} {v : Value} {xs : List Value} (g : Gr H lo 5 1 v n xs) (u : Up H.n H H') : Gr H' 0 5 1 v n xs := g.keep (lo' := 0) u.n (fun b _ hb => u.get b hb) |>.low (Nat.zero_le _)
/-- Code that is made, as a slice of bytes. -/
theorem made_view {H : Heap} {v : Value} {L is : List Ins5} (t : Bool) (h : InsA H v L) (hL : ∀ i ∈ L, okA i) (hi : (L.take 30).map (madeI t) = is) : ACall Try.prog T8 9 #[v, .bool t] H fun r H' => ∃ pt cap, r = .slice pt (codeB is).length cap ∧ Gr H' 0 5 1 (.slice pt (codeB is).length cap) (codeB is).length ((codeB is).map (Value.int .u8)) ∧ CapV pt (codeB is).length cap ∧ Up H.n H H' :=
  (made_any t h hL).mono fun r H' ⟨ov, e, g, u⟩ => by
    rw [hi] at g
    obtain ⟨pt, cap, rfl, _, hC⟩ := Gr.view (codeB_in _) g
    exact ⟨pt, cap, e, g.low (Nat.zero_le _), hC, u⟩
theorem made_is_dec {L is : List Ins5} {t : Bool} (hL : ∀ i ∈ L, okA i) (hi : (L.take 30).map (madeI t) = is) : Dec (codeB is) is ∧ (codeB is).length = 8 * is.length ∧ (codeB is).length ≤ 100000 := by
  subst hi
  exact ⟨made_dec t hL, codeB_len _, by rw [codeB_len]; have := made_len (L := L) t; omega⟩
/-- Any bytes loaded: told well, or refused whole. -/
theorem load_either {H : Heap} {M W : Nat} {cp : Value} {m : Mach} {pt : Option Addr} {cap : Nat} {l : List Int} (h : MA H 62 M W cp m) (hB : Byts H (.slice pt l.length cap) l) (hC : CapV pt l.length cap) (hll : l.length ≤ 100000) (hb : ∀ x ∈ l, 0 ≤ x ∧ x < 256) : ACall Try.prog T8 10 #[.pointer (some ⟨M, 0, none⟩), .slice pt l.length cap] H fun r H' => ∃ (er : Int) (cp' : Value) (m' : Mach), r = .int .i64 er ∧ MA H' 62 M W cp' m' ∧ Fr2 H H' M W ∧ ((er = 0 ∧ m'.pc = 0 ∧ ∃ is, Dec l is ∧ l.length = 8 * is.length) ∨ (er ≠ 0 ∧ m' = m ∧ ¬ ∃ is, Dec l is ∧ l.length = 8 * is.length)) := by
  by_cases hg : ∃ is, Dec l is ∧ l.length = 8 * is.length
  · obtain ⟨is, hd, hl⟩ := hg
    exact (load_ma h hB hC hll hb hd hl).mono fun r H' ⟨e, ⟨cp', hm⟩, f⟩ => ⟨0, cp', _, e, hm, f, .inl ⟨rfl, rfl, is, hd, hl⟩⟩
  · exact (load_bad h.hM h.hW h.r16 h.mw h.mn h.wn hB hC hll hg).mono fun r H' ⟨er, he, e, u⟩ => ⟨er, cp, m, e, h.keep u.n u.get, Fr2.of_up u, .inr ⟨he, rfl, hg⟩⟩
theorem run_some {H : Heap} {M W : Nat} {cp : Value} {m : Mach} {st : Int} (h : MA H 62 M W cp m) (h0 : -9223372036854775808 ≤ st) (h1 : st < 4611686018427387904) : ACall Try.prog T8 11 #[.pointer (some ⟨M, 0, none⟩), .int .i64 st] H fun r H' => ∃ (a b c : Int) (m' : Mach), r = .tuple #[.int .i64 a, .int .u32 b, .int .i64 c] ∧ MA H' 62 M W cp m' ∧ Fr2 H H' M W :=
  (run_ma h h0 h1).mono fun r H' ⟨e, hm, f⟩ => ⟨_, _, _, _, e, hm, f⟩
noncomputable def f3b : Code := Try.f3.body.getD .skip
theorem f3_body : Try.f3.body = some f3b := by kernel_rfl
theorem f3_fn : T8.fn 3 = some Try.f3 := by kernel_rfl
set_option maxHeartbeats 1000000 in
theorem loads_at {H : Heap} {vl : Value} {L is : List Ins5} {ptb : Option Addr} {capb : Nat} {b : List Int} {steps : Int} (hI : InsA H vl L) (hL : ∀ i ∈ L, okA i) (hi : (L.take 30).map (madeI true) = is) (hd : Dec (codeB is) is ∧ (codeB is).length = 8 * is.length ∧ (codeB is).length ≤ 100000) (hB : Byts H (.slice ptb b.length capb) b) (hC : CapV ptb b.length capb) (hb40 : ∀ x ∈ b.take 40, 0 ≤ x ∧ x < 256) (hs0 : -9223372036854775808 ≤ steps) (hs1 : steps ≤ 9223372036854775807) : ACall Try.prog T8 3 #[vl, .slice ptb b.length capb, .int .i64 steps] H fun r H' => r = .bool true := by
  refine acall_cf 82 (initTm 0 #[vl, (.slice ptb b.length capb), .int .i64 steps]) rfl f3_fn f3_body rfl rfl ?_
  refine cf_go 7 ?_
  refine cf_call 15 8 #[.int .i64 6] H (by kernel_rfl) (by kernel_rfl) (by kernel_rfl) (new_any (n := 6) (by omega) (by omega)) ?_
  rintro _ H1_ ⟨M, W, rfl, maH1_, hMl, hWl, nnH1_, vH1_⟩
  have uH1_ := vH1_.mono (lo' := H.n) (by omega)
  have nH1_ := uH1_.n
  refine cf_go 10 ?_
  refine cf_call 19 9 #[vl, .bool true] H1_ (by kernel_rfl) (by kernel_rfl) (by kernel_rfl) (made_view true (hI.keep (by omega) (fun b hb => by rw [uH1_.get _ (by omega)])) hL hi) ?_
  rintro _ H2_ ⟨ptc, capc, rfl, grH2_, hCc, vH2_⟩
  have uH2_ := vH2_.mono (lo' := H.n) (by omega)
  have nH2_ := uH2_.n
  have maH2_ := maH1_.keep vH2_.n vH2_.get
  refine cf_go 15 ?_
  refine cf_call 29 10 #[.pointer (some ⟨M, 0, none⟩), (.slice ptc (codeB is).length capc)] H2_ (by kernel_rfl) (by kernel_rfl) (by kernel_rfl) (load_ma maH2_ (Gr.byts (codeB_in _) grH2_) hCc hd.2.2 (codeB_in _) hd.1 hd.2.1) ?_
  rintro _ H3_ ⟨rfl, ⟨cpH3_, maH3_⟩, frH3_⟩
  have uH3_ := frH3_.up (lo := H.n) hMl hWl (by omega)
  have nH3_ := uH3_.n
  have grH3_ := Gr.beside grH2_ maH2_ frH3_
  refine cf_go 11 ?_
  refine cf_ask 34 (.int .i64 (0 + steps % (30 - 0 + 1))) 12 #[.int .i64 steps, .int .i64 0, .int .i64 30] (by kernel_rfl) (by kernel_rfl) (orc12 steps 0 30 (by simp only [inB, Bool.and_eq_true, decide_eq_true_eq]; omega)) ?_
  refine cf_see 34 (.int .i64 (steps % 31)) (see_int (x := (0 + steps % (30 - 0 + 1))) (by kernel_rfl) (by rw [show ((30 : Int) - 0 + 1) = 31 from rfl]; omega)) ?_
  refine cf_call 35 11 #[.pointer (some ⟨M, 0, none⟩), .int .i64 (steps % 31)] H3_ (by kernel_rfl) (by kernel_rfl) (by kernel_rfl) (run_some maH3_ (by omega) (by omega)) ?_
  rintro _ H4_ ⟨ra, rb, rc, m3, rfl, maH4_, frH4_⟩
  have uH4_ := frH4_.up (lo := H.n) hMl hWl (by omega)
  have nH4_ := uH4_.n
  have grH4_ := Gr.beside grH3_ maH3_ frH4_
  refine cf_go 5 ?_
  refine cf_call 37 13 #[.pointer (some ⟨M, 0, none⟩)] H4_ (by kernel_rfl) (by kernel_rfl) (by kernel_rfl) (at_ma maH4_ : ACall Try.prog T8 13 _ H4_ fun r H' => r = Value.int .i64 m3.pc ∧ H4_ = H') ?_
  rintro _ _ ⟨rfl, rfl⟩
  refine cf_go 6 ?_
  refine cf_call 39 14 #[(.slice ptb b.length capb), .int .i64 40] H4_ (by kernel_rfl) (by kernel_rfl) (by kernel_rfl) (cut_any (n := 40) hB hC) ?_
  rintro _ _ ⟨pt9, cap9, rfl, hB9, hC9, rfl⟩
  refine cf_go 6 ?_
  refine cf_call 42 15 #[(.slice pt9 (List.take 40 b).length cap9)] H4_ (by kernel_rfl) (by kernel_rfl) (by kernel_rfl) (rall_is (hB9.keep (H' := H4_) (by omega) (fun b hb => by rw [uH4_.get _ (by omega), uH3_.get _ (by omega), uH2_.get _ (by omega), uH1_.get _ (by omega)])) hC9 (by simp; omega)) ?_
  rintro _ H5_ ⟨oq, good, rfl, hgood, vH5_⟩
  have uH5_ := vH5_.mono (lo' := H.n) (by omega)
  have nH5_ := uH5_.n
  have maH5_ := maH4_.keep vH5_.n vH5_.get
  have grH5_ := Gr.up grH4_ vH5_
  refine cf_go 11 ?_
  refine cf_call 47 10 #[.pointer (some ⟨M, 0, none⟩), (.slice pt9 (List.take 40 b).length cap9)] H5_ (by kernel_rfl) (by kernel_rfl) (by kernel_rfl) (load_either maH5_ (hB9.keep (H' := H5_) (by omega) (fun b hb => by rw [uH5_.get _ (by omega), uH4_.get _ (by omega), uH3_.get _ (by omega), uH2_.get _ (by omega), uH1_.get _ (by omega)])) hC9 (by simp; omega) hb40) ?_
  rintro _ H6_ ⟨er, cpH6_, m4, rfl, maH6_, frH6_, hcase⟩
  have uH6_ := frH6_.up (lo := H.n) hMl hWl (by omega)
  have nH6_ := uH6_.n
  have grH6_ := Gr.beside grH5_ maH5_ frH6_
  rcases hcase with ⟨rfl, hpc, hg⟩ | ⟨her, hm4, hg⟩
  · skip
    have hgt : good = true := hgood.2 hg
    refine cf_see 12 (.bool true) (see_bool (by kernel_rfl) hgt) ?_
    refine cf_go 24 ?_
    refine cf_call 66 13 #[.pointer (some ⟨M, 0, none⟩)] H6_ (by kernel_rfl) (by kernel_rfl) (by kernel_rfl) (at_ma maH6_ : ACall Try.prog T8 13 _ H6_ fun r H' => r = Value.int .i64 m4.pc ∧ H6_ = H') ?_
    rintro _ _ ⟨rfl, rfl⟩
    refine cf_go 1 ?_
    refine cf_see 67 (.bool false) (see_bool (by kernel_rfl) ((bne_eq_false_iff_eq.2 (by omega)) : (((m4.pc : Int) != 0)) = false)) ?_
    refine cf_go 11 ?_
    refine cf_call 72 10 #[.pointer (some ⟨M, 0, none⟩), (.slice ptc (codeB is).length capc)] H6_ (by kernel_rfl) (by kernel_rfl) (by kernel_rfl) (load_ma maH6_ (Gr.byts (codeB_in _) grH6_) hCc hd.2.2 (codeB_in _) hd.1 hd.2.1) ?_
    rintro _ H7_ ⟨rfl, ⟨cpH7_, maH7_⟩, frH7_⟩
    have uH7_ := frH7_.up (lo := H.n) hMl hWl (by omega)
    have nH7_ := uH7_.n
    have grH7_ := Gr.beside grH6_ maH6_ frH7_
    refine cf_go 3 ?_
    refine cf_call 76 13 #[.pointer (some ⟨M, 0, none⟩)] H7_ (by kernel_rfl) (by kernel_rfl) (by kernel_rfl) (at_ma maH7_ : ACall Try.prog T8 13 _ H7_ fun r H' => r = Value.int .i64 0 ∧ H7_ = H') ?_
    rintro _ _ ⟨rfl, rfl⟩
    refine cf_go 3 ?_
    refine cf_ask 80 (.bool true) 16 #[] (by kernel_rfl) (by kernel_rfl) (by kernel_rfl) ?_
    refine cf_go 5 ?_
    refine cf_end (.bool true) H7_ (by kernel_rfl) (by kernel_rfl) (by kernel_rfl) ?_
    rfl
  · skip
    have hgf : good = false := by cases hq : good; rfl; exact absurd (hgood.1 hq) hg
    refine cf_see 12 (.bool false) (see_bool (by kernel_rfl) hgf) ?_
    have hpc : m4.pc = m3.pc := by rw [hm4]
    refine cf_go 8 ?_
    refine cf_see 49 (.bool false) (see_bool (by kernel_rfl) ((beq_eq_false_iff_ne.2 (by omega)) : (((er : Int) == 0)) = false)) ?_
    refine cf_go 7 ?_
    refine cf_call 57 13 #[.pointer (some ⟨M, 0, none⟩)] H6_ (by kernel_rfl) (by kernel_rfl) (by kernel_rfl) (at_ma maH6_ : ACall Try.prog T8 13 _ H6_ fun r H' => r = Value.int .i64 m4.pc ∧ H6_ = H') ?_
    rintro _ _ ⟨rfl, rfl⟩
    refine cf_go 2 ?_
    refine cf_see 59 (.bool false) (see_bool (by kernel_rfl) ((bne_eq_false_iff_eq.2 (by omega)) : (((m4.pc : Int) != m3.pc)) = false)) ?_
    refine cf_go 19 ?_
    refine cf_call 72 10 #[.pointer (some ⟨M, 0, none⟩), (.slice ptc (codeB is).length capc)] H6_ (by kernel_rfl) (by kernel_rfl) (by kernel_rfl) (load_ma maH6_ (Gr.byts (codeB_in _) grH6_) hCc hd.2.2 (codeB_in _) hd.1 hd.2.1) ?_
    rintro _ H8_ ⟨rfl, ⟨cpH8_, maH8_⟩, frH8_⟩
    have uH8_ := frH8_.up (lo := H.n) hMl hWl (by omega)
    have nH8_ := uH8_.n
    have grH8_ := Gr.beside grH6_ maH6_ frH8_
    refine cf_go 3 ?_
    refine cf_call 76 13 #[.pointer (some ⟨M, 0, none⟩)] H8_ (by kernel_rfl) (by kernel_rfl) (by kernel_rfl) (at_ma maH8_ : ACall Try.prog T8 13 _ H8_ fun r H' => r = Value.int .i64 0 ∧ H8_ = H') ?_
    rintro _ _ ⟨rfl, rfl⟩
    refine cf_go 3 ?_
    refine cf_ask 80 (.bool true) 16 #[] (by kernel_rfl) (by kernel_rfl) (by kernel_rfl) ?_
    refine cf_go 5 ?_
    refine cf_end (.bool true) H8_ (by kernel_rfl) (by kernel_rfl) (by kernel_rfl) ?_
    rfl
end Hm
end Go.Proofs.Ytjhijpfbokklcaa
