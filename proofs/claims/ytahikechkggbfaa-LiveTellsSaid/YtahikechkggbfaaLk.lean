/- Chapter 20: both ways the same. -/
import Derived.Test.YtahikechkggbfaaLj
namespace Go.Proofs.Ytahikechkggbfaa
open Go Go.Ev Go.RowKit
set_option linter.unusedVariables false
set_option linter.unusedSimpArgs false
set_option maxRecDepth 100000
namespace Lm
noncomputable def f8b : Code := Try.f8.body.getD .skip
theorem f8_body : Try.f8.body = some f8b := by kernel_rfl
theorem f8_fn : T2.fn 8 = some Try.f8 := by kernel_rfl
set_option maxHeartbeats 4000000 in
theorem same_ok {H : Heap} {c : List II} {o : List Int} {fl : Int} {pc po : Option Addr} {cc co lo : Nat} (hok : PgOk c o fl) (hgc : Gr H lo 50 5 (.slice pc c.length cc) c.length (iis c)) (hgo : Gr H lo 3 1 (.slice po o.length co) o.length (o.map (Value.int .i64))) : ACall Try.prog T2 8 #[.agg #[(.slice pc c.length cc), .int .i64 0, .int .i64 0, .int .i64 0, .int .i64 0, (.slice po o.length co), .slice none 0 0, .int .i64 fl, .int .u32 0, .int .i64 (-1), .int .i64 0, .int .u32 0, .int .i64 1, .int .i64 ((c.length : Nat) : Int)]] H fun r H' => r = .bool true ∧ Up H.n H H' := by
  have hlen := hok.len
  obtain ⟨l, hl⟩ : ∃ l, l = ofL maxat c o fl := ⟨_, rfl⟩
  have hlc : l.length ≤ 30 := by rw [hl, ofL_len maxat_len]; exact hlen
  have hl1 : l.length ≤ 1000 := by omega
  refine acall_cf 89 (initTm 0 #[.agg #[(.slice pc c.length cc), .int .i64 0, .int .i64 0, .int .i64 0, .int .i64 0, (.slice po o.length co), .slice none 0 0, .int .i64 fl, .int .u32 0, .int .i64 (-1), .int .i64 0, .int .u32 0, .int .i64 1, .int .i64 ((c.length : Nat) : Int)]]) rfl f8_fn f8_body rfl rfl ?_
  refine cf_go 2 ?_
  obtain ⟨H1_, hH1_⟩ : ∃ x : Heap, x = H.push ⟨[(.slice pc c.length cc), .int .i64 0, .int .i64 0, .int .i64 0, .int .i64 0, (.slice po o.length co), .slice none 0 0, .int .i64 fl, .int .u32 0, .int .i64 (-1), .int .i64 0, .int .u32 0, .int .i64 1, .int .i64 ((c.length : Nat) : Int)], 29, false⟩ := ⟨_, rfl⟩
  have nH1_ : H1_.n = H.n + 1 := by rw [hH1_]; rfl
  refine cf_val 1 (.pointer (some ⟨H.n, 0, none⟩)) H1_ (by kernel_rfl) ((by kernel_rfl : _ = some (Res.val (.pointer (some ⟨H.n, 0, none⟩)), H.push ⟨[(.slice pc c.length cc), .int .i64 0, .int .i64 0, .int .i64 0, .int .i64 0, (.slice po o.length co), .slice none 0 0, .int .i64 fl, .int .u32 0, .int .i64 (-1), .int .i64 0, .int .u32 0, .int .i64 1, .int .i64 ((c.length : Nat) : Int)], 29, false⟩)).trans (by rw [← hH1_])) ?_
  refine cf_go 4 ?_
  refine cf_drawV (H1_.n) (by kernel_rfl) ?_
  have gH1_H_n : H1_.get (H.n) = some ⟨[(.slice pc c.length cc), .int .i64 0, .int .i64 0, .int .i64 0, .int .i64 0, (.slice po o.length co), .slice none 0 0, .int .i64 fl, .int .u32 0, .int .i64 (-1), .int .i64 0, .int .u32 0, .int .i64 1, .int .i64 ((c.length : Nat) : Int)], 29, false⟩ := by rw [hH1_]; exact (Heap.get_push _ _ _).trans (if_pos rfl)
  refine aopsV_val 7 (.agg #[(.slice pc c.length cc), .int .i64 0, .int .i64 0, .int .i64 0, .int .i64 0, (.slice po o.length co), .slice none 0 0, .int .i64 fl, .int .u32 0, .int .i64 (-1), .int .i64 0, .int .u32 0, .int .i64 1, .int .i64 ((c.length : Nat) : Int)]) H1_ H1_ (by kernel_rfl) ((by kernel_rfl : _ = val (aload T2 29 (.pointer (some ⟨H.n, 0, none⟩)) H1_) H1_).trans (val_of ((aload_at gH1_H_n).trans (by kernel_rfl)))) (by kernel_rfl) (calm_no (by kernel_rfl)) (by kernel_rfl) ?_
  refine aopsV_call 8 10 #[.agg #[(.slice pc c.length cc), .int .i64 0, .int .i64 0, .int .i64 0, .int .i64 0, (.slice po o.length co), .slice none 0 0, .int .i64 fl, .int .u32 0, .int .i64 (-1), .int .i64 0, .int .u32 0, .int .i64 1, .int .i64 ((c.length : Nat) : Int)]] H1_ (by kernel_rfl) (by kernel_rfl) (by kernel_rfl) (of_runL hl hok (hgc.keep (lo' := 0) (by omega) (fun b hb1 hb2 => by rw [hH1_, Heap.get_push, if_neg (by omega)])) (hgo.keep (lo' := 0) (by omega) (fun b hb1 hb2 => by rw [hH1_, Heap.get_push, if_neg (by omega)]))) (fun _ _ _ h => (h.elim fun _ h => h.elim fun _ h => h.2.2)) ?_
  rintro _ H2_ ⟨pv, cv, rfl, gv, uH2_⟩
  have nH2_ := uH2_.n
  have gH2_H_n : H2_.get (H.n) = some ⟨[(.slice pc c.length cc), .int .i64 0, .int .i64 0, .int .i64 0, .int .i64 0, (.slice po o.length co), .slice none 0 0, .int .i64 fl, .int .u32 0, .int .i64 (-1), .int .i64 0, .int .u32 0, .int .i64 1, .int .i64 ((c.length : Nat) : Int)], 29, false⟩ := by rw [uH2_.get _ (by omega)]; exact gH1_H_n
  refine aopsV_get 9 (.agg #[(.slice pc c.length cc), .int .i64 0, .int .i64 0, .int .i64 0, .int .i64 0, (.slice po o.length co), .slice none 0 0, .int .i64 fl, .int .u32 0, .int .i64 (-1), .int .i64 0, .int .u32 0, .int .i64 1, .int .i64 ((c.length : Nat) : Int)]) (.pointer (some ⟨H.n, 0, none⟩)) (.tmp 1) H2_ (by kernel_rfl) (by kernel_rfl) (by kernel_rfl) (by kernel_rfl) ((by kernel_rfl : _ = aload T2 29 (.pointer (some ⟨H.n, 0, none⟩)) H2_).trans ((aload_at gH2_H_n).trans (by kernel_rfl))) (veqs_c (veq_slice _ _ _) (veqs_c (veq_int _ _) (veqs_c (veq_int _ _) (veqs_c (veq_int _ _) (veqs_c (veq_int _ _) (veqs_c (veq_slice _ _ _) (veqs_c (veq_slice _ _ _) (veqs_c (veq_int _ _) (veqs_c (veq_int _ _) (veqs_c (veq_int _ _) (veqs_c (veq_int _ _) (veqs_c (veq_int _ _) (veqs_c (veq_int _ _) (veqs_c (veq_int _ _) rfl)))))))))))))) (lowB_ptr (by omega)) ((by kernel_rfl : _ = val (aload T2 29 (.pointer (some ⟨H.n, 0, none⟩)) H2_) H2_).trans (val_to ((aload_at gH2_H_n).trans (by kernel_rfl)) (by kernel_rfl))) ?_
  refine aopsV_call 10 19 #[.agg #[(.slice pc c.length cc), .int .i64 0, .int .i64 0, .int .i64 0, .int .i64 0, (.slice po o.length co), .slice none 0 0, .int .i64 fl, .int .u32 0, .int .i64 (-1), .int .i64 0, .int .u32 0, .int .i64 1, .int .i64 ((c.length : Nat) : Int)]] H2_ (by kernel_rfl) (by kernel_rfl) (by kernel_rfl) (rof_runL hl hok (hgc.keep (lo' := 0) (by omega) (fun b hb1 hb2 => by rw [uH2_.get _ (by omega), hH1_, Heap.get_push, if_neg (by omega)])) (hgo.keep (lo' := 0) (by omega) (fun b hb1 hb2 => by rw [uH2_.get _ (by omega), hH1_, Heap.get_push, if_neg (by omega)]))) (calm_no (by kernel_rfl)) ?_
  rintro _ H3_ ⟨pw, cw, rfl, gw, uH3_⟩
  have nH3_ := uH3_.n
  refine aopsV_go 2 (by kernel_rfl) (by kernel_rfl) ?_
  refine aopsV_end (by kernel_rfl) ?_
  refine cf_go 9 ?_
  refine cf_see 15 (.bool false) (see_bool (by kernel_rfl) ((bne_eq_false_iff_eq.2 (by omega)) : ((((l.length : Nat) : Int) != ((l.length : Nat) : Int))) = false)) ?_
  refine cf_go 12 ?_
  have gv8 := (gv.keep (lo' := 0) (by omega) (fun b hb1 hb2 => by rw [uH3_.get _ (by omega)]))
  have gw8 := gw
  have lo0 : ∀ {H : Heap} {lo : Nat} {e : TypeId} {v : Value}, Gr H lo e 3 v l.length (ivs l) → Gr H 0 e 3 v l.length (ivs l) := fun g => ⟨g.size, g.at_.elim .inl fun ⟨B, h1, h2, h3, h4⟩ => .inr ⟨B, h1, h2, h3, by omega⟩⟩
  refine cf_loop 89 (cl (cl (cr (cl (cr (cr (cr f8b))))))) [.blk 0, .next (cr (cr (cr (cr f8b))))] (by kernel_rfl) (by kernel_rfl) (by kernel_rfl) (fun m9 s9 => ∃ (i : Nat) (HA : Heap), m9 = l.length - i ∧ i ≤ l.length ∧ Gr HA 0 40 3 (.slice pv l.length cv) l.length (ivs l) ∧ Gr HA 0 41 3 (.slice pw l.length cw) l.length (ivs l) ∧ Up H.n H HA ∧ Kn s9.tm [(2, .bool false), (3, (.slice pv l.length cv)), (4, (.slice pw l.length cw)), (5, .int .i64 ((i : Nat) : Int))] ∧ s9.H = HA) (l.length) ⟨0, H3_, by omega, by omega, lo0 gv8, lo0 gw8, (show Up H.n H H3_ from ⟨by omega, fun b hb => by rw [uH3_.get _ (by omega), uH2_.get _ (by omega), hH1_, Heap.get_push, if_neg (by omega)]⟩), ⟨(by kernel_rfl), (by kernel_rfl), (by kernel_rfl), (by kernel_rfl), True.intro⟩, (by kernel_rfl)⟩ ?_
  rintro m9 s9 ⟨i, HA, hm, hi, gv9, gw9, uHA, hkn, hH⟩ Rr1 hRr1
  refine cf_kn [(2, .bool false), (3, (.slice pv l.length cv)), (4, (.slice pw l.length cw)), (5, .int .i64 ((i : Nat) : Int))] hkn hH fun tm => ?_
  have nHA := uHA.n
  by_cases hlt : i < l.length
  · skip
    obtain ⟨a, ha⟩ : ∃ i_, l[i]? = some i_ := ⟨_, List.getElem?_eq_getElem hlt⟩
    rcases gv9.at_ with ⟨_, h0⟩ | ⟨B0, heB0, gB0, hB0, _⟩
    · omega
    obtain ⟨rfl, rfl⟩ : pv = some ⟨B0, 0, none⟩ ∧ cv = unk + 3 := by injection heB0 with e1 _ e3; exact ⟨e1, e3⟩
    rcases gw9.at_ with ⟨_, h0⟩ | ⟨C0, heC0, gC0, hC0, _⟩
    · omega
    obtain ⟨rfl, rfl⟩ : pw = some ⟨C0, 0, none⟩ ∧ cw = unk + 3 := by injection heC0 with e1 _ e3; exact ⟨e1, e3⟩
    refine cf_go 7 ?_
    refine cf_see 19 (.bool true) (see_bool (by kernel_rfl) ((decide_eq_true (by omega)) : ((decide (((i : Nat) : Int) < ((l.length : Nat) : Int)))) = true)) ?_
    refine cf_go 12 ?_
    refine cf_val 24 (.pointer (some ⟨B0, 0 + i * 3, none⟩)) HA (by kernel_rfl) ((by kernel_rfl : _ = val (bif (i : Nat).blt l.length then some (.pointer (some ⟨B0, 0 + i * 3, none⟩)) else none) HA).trans (by rw [show (i : Nat).blt l.length = true from (by rw [blt_dec]; simp only [decide_eq_true_eq]; omega)]; rfl)) ?_
    refine cf_go 1 ?_
    refine cf_val 26 (.int .i64 a.1) HA (by kernel_rfl) ((by kernel_rfl : _ = val (aload T2 3 (.pointer (some ⟨B0, 0 + i * 3, none⟩)) HA) HA).trans (val_of ((aload_at gB0).trans (aloadC_cellB (n := 1) (by kernel_rfl) (by kernel_rfl) (ivs_cell _ _ _ 0 ha (by decide)))))) ?_
    refine cf_go 2 ?_
    refine cf_val 29 (.pointer (some ⟨C0, 0 + i * 3, none⟩)) HA (by kernel_rfl) ((by kernel_rfl : _ = val (bif (i : Nat).blt l.length then some (.pointer (some ⟨C0, 0 + i * 3, none⟩)) else none) HA).trans (by rw [show (i : Nat).blt l.length = true from (by rw [blt_dec]; simp only [decide_eq_true_eq]; omega)]; rfl)) ?_
    refine cf_go 1 ?_
    refine cf_val 31 (.int .i64 a.1) HA (by kernel_rfl) ((by kernel_rfl : _ = val (aload T2 3 (.pointer (some ⟨C0, 0 + i * 3, none⟩)) HA) HA).trans (val_of ((aload_at gC0).trans (aloadC_cellB (n := 1) (by kernel_rfl) (by kernel_rfl) (ivs_cell _ _ _ 0 ha (by decide)))))) ?_
    refine cf_go 1 ?_
    refine cf_see 32 (.bool false) (see_bool (by kernel_rfl) ((bne_self_eq_false _) : (((a.1 : Int) != a.1)) = false)) ?_
    refine cf_go 3 ?_
    refine cf_val 36 (.pointer (some ⟨B0, 0 + i * 3, none⟩)) HA (by kernel_rfl) ((by kernel_rfl : _ = val (bif (i : Nat).blt l.length then some (.pointer (some ⟨B0, 0 + i * 3, none⟩)) else none) HA).trans (by rw [show (i : Nat).blt l.length = true from (by rw [blt_dec]; simp only [decide_eq_true_eq]; omega)]; rfl)) ?_
    refine cf_go 1 ?_
    refine cf_val 38 (.int .i64 a.2.1) HA (by kernel_rfl) ((by kernel_rfl : _ = val (aload T2 3 (.pointer (some ⟨B0, 0 + i * 3 + 1, none⟩)) HA) HA).trans (val_of ((aload_at gB0).trans (aloadC_cellB (n := 1) (by kernel_rfl) (by kernel_rfl) (ivs_cell _ _ _ 1 ha (by decide)))))) ?_
    refine cf_go 2 ?_
    refine cf_val 41 (.pointer (some ⟨C0, 0 + i * 3, none⟩)) HA (by kernel_rfl) ((by kernel_rfl : _ = val (bif (i : Nat).blt l.length then some (.pointer (some ⟨C0, 0 + i * 3, none⟩)) else none) HA).trans (by rw [show (i : Nat).blt l.length = true from (by rw [blt_dec]; simp only [decide_eq_true_eq]; omega)]; rfl)) ?_
    refine cf_go 1 ?_
    refine cf_val 43 (.int .i64 a.2.1) HA (by kernel_rfl) ((by kernel_rfl : _ = val (aload T2 3 (.pointer (some ⟨C0, 0 + i * 3 + 1, none⟩)) HA) HA).trans (val_of ((aload_at gC0).trans (aloadC_cellB (n := 1) (by kernel_rfl) (by kernel_rfl) (ivs_cell _ _ _ 1 ha (by decide)))))) ?_
    refine cf_go 1 ?_
    refine cf_see 44 (.bool false) (see_bool (by kernel_rfl) ((bne_self_eq_false _) : (((a.2.1 : Int) != a.2.1)) = false)) ?_
    refine cf_go 4 ?_
    refine cf_val 49 (.pointer (some ⟨B0, 0 + i * 3, none⟩)) HA (by kernel_rfl) ((by kernel_rfl : _ = val (bif (i : Nat).blt l.length then some (.pointer (some ⟨B0, 0 + i * 3, none⟩)) else none) HA).trans (by rw [show (i : Nat).blt l.length = true from (by rw [blt_dec]; simp only [decide_eq_true_eq]; omega)]; rfl)) ?_
    refine cf_go 1 ?_
    refine cf_val 51 (.int .i64 a.2.2) HA (by kernel_rfl) ((by kernel_rfl : _ = val (aload T2 3 (.pointer (some ⟨B0, 0 + i * 3 + 2, none⟩)) HA) HA).trans (val_of ((aload_at gB0).trans (aloadC_cellB (n := 1) (by kernel_rfl) (by kernel_rfl) (ivs_cell _ _ _ 2 ha (by decide)))))) ?_
    refine cf_go 2 ?_
    refine cf_val 54 (.pointer (some ⟨C0, 0 + i * 3, none⟩)) HA (by kernel_rfl) ((by kernel_rfl : _ = val (bif (i : Nat).blt l.length then some (.pointer (some ⟨C0, 0 + i * 3, none⟩)) else none) HA).trans (by rw [show (i : Nat).blt l.length = true from (by rw [blt_dec]; simp only [decide_eq_true_eq]; omega)]; rfl)) ?_
    refine cf_go 1 ?_
    refine cf_val 56 (.int .i64 a.2.2) HA (by kernel_rfl) ((by kernel_rfl : _ = val (aload T2 3 (.pointer (some ⟨C0, 0 + i * 3 + 2, none⟩)) HA) HA).trans (val_of ((aload_at gC0).trans (aloadC_cellB (n := 1) (by kernel_rfl) (by kernel_rfl) (ivs_cell _ _ _ 2 ha (by decide)))))) ?_
    refine cf_go 1 ?_
    refine cf_see 57 (.bool false) (see_bool (by kernel_rfl) ((bne_self_eq_false _) : (((a.2.2 : Int) != a.2.2)) = false)) ?_
    refine cf_go 12 ?_
    refine cf_loop 89 (cl (cl (cr (cr (cl (cl (cr (cl (cl (cr (cl (cr (cr (cr f8b)))))))))))))) [.blk 2, .blk 1, .next (cr (cr (cl (cl (cr (cl (cr (cr (cr f8b))))))))), .inv Rr1, .blk 0, .next (cr (cr (cr (cr f8b))))] (by kernel_rfl) (by kernel_rfl) (by kernel_rfl) (fun m9 s9 => ∃ (k : Nat) (HB : Heap), m9 = l.length - k ∧ k ≤ l.length ∧ HB.get B0 = some ⟨ivs l, 40, false⟩ ∧ HB.get C0 = some ⟨ivs l, 41, false⟩ ∧ B0 < HB.n ∧ C0 < HB.n ∧ Up H.n H HB ∧ Kn s9.tm [(2, .bool false), (3, .slice (some ⟨B0, 0, none⟩) l.length (unk + 3)), (4, .slice (some ⟨C0, 0, none⟩) l.length (unk + 3)), (5, .int .i64 ((i : Nat) : Int)), (6, .int .i64 ((k : Nat) : Int))] ∧ s9.H = HB) (l.length) ⟨0, HA, by omega, by omega, gB0, gC0, by omega, by omega, (show Up H.n H HA from ⟨by omega, fun b hb => by rw [uHA.get _ (by omega)]⟩), ⟨(by kernel_rfl), (by kernel_rfl), (by kernel_rfl), (by kernel_rfl), (by kernel_rfl), True.intro⟩, (by kernel_rfl)⟩ ?_
    rintro m9 s9 ⟨k, HB, hm2, hk, gBB, gCB, bB, bC, uHB, hkn, hH⟩ Rr2 hRr2
    refine cf_kn [(2, .bool false), (3, .slice (some ⟨B0, 0, none⟩) l.length (unk + 3)), (4, .slice (some ⟨C0, 0, none⟩) l.length (unk + 3)), (5, .int .i64 ((i : Nat) : Int)), (6, .int .i64 ((k : Nat) : Int))] hkn hH fun tm => ?_
    have nHB := uHB.n
    have hgs : (ivs l).length = l.length * 3 := ivs_len l
    have gvX : Gr HB 0 40 3 (.slice (some ⟨B0, 0, none⟩) l.length (unk + 3)) l.length (ivs l) := Gr.iv gBB rfl bB (by omega)
    have gwX : Gr HB 0 41 3 (.slice (some ⟨C0, 0, none⟩) l.length (unk + 3)) l.length (ivs l) := Gr.iv gCB rfl bC (by omega)
    by_cases hlt2 : k < l.length
    · skip
      obtain ⟨b, hb⟩ : ∃ i_, l[k]? = some i_ := ⟨_, List.getElem?_eq_getElem hlt2⟩
      rcases Bool.eq_false_or_eq_true (meetB a.2.1 a.2.2 b.2.1 b.2.2) with hmt | hmt
      · skip
        refine cf_go 7 ?_
        refine cf_see 62 (.bool true) (see_bool (by kernel_rfl) ((decide_eq_true (by omega)) : ((decide (((k : Nat) : Int) < ((l.length : Nat) : Int)))) = true)) ?_
        refine cf_go 8 ?_
        refine cf_drawV (HB.n) (by kernel_rfl) ?_
        refine aopsV_go 2 (by kernel_rfl) (by kernel_rfl) ?_
        refine aopsV_val 67 (.pointer (some ⟨B0, 0 + i * 3, none⟩)) HB HB (by kernel_rfl) ((by kernel_rfl : _ = val (bif (i : Nat).blt l.length then some (.pointer (some ⟨B0, 0 + i * 3, none⟩)) else none) HB).trans (by rw [show (i : Nat).blt l.length = true from (by rw [blt_dec]; simp only [decide_eq_true_eq]; omega)]; rfl)) (by kernel_rfl) (calm_no (by kernel_rfl)) (by kernel_rfl) ?_
        refine aopsV_val 68 (.agg #[.int .i64 a.1, .int .i64 a.2.1, .int .i64 a.2.2]) HB HB (by kernel_rfl) ((by kernel_rfl : _ = val (aload T2 40 (.pointer (some ⟨B0, 0 + i * 3, none⟩)) HB) HB).trans (val_of ((aload_at gBB).trans (aloadC_rowB (n := 3) (l := ivC a) (by kernel_rfl) (by kernel_rfl) (by kernel_rfl) (ivs_at l i _ ha))))) (by kernel_rfl) (calm_no (by kernel_rfl)) (by kernel_rfl) ?_
        refine aopsV_go 2 (by kernel_rfl) (by kernel_rfl) ?_
        refine aopsV_val 71 (.pointer (some ⟨B0, 0 + k * 3, none⟩)) HB HB (by kernel_rfl) ((by kernel_rfl : _ = val (bif (k : Nat).blt l.length then some (.pointer (some ⟨B0, 0 + k * 3, none⟩)) else none) HB).trans (by rw [show (k : Nat).blt l.length = true from (by rw [blt_dec]; simp only [decide_eq_true_eq]; omega)]; rfl)) (by kernel_rfl) (calm_no (by kernel_rfl)) (by kernel_rfl) ?_
        refine aopsV_val 72 (.agg #[.int .i64 b.1, .int .i64 b.2.1, .int .i64 b.2.2]) HB HB (by kernel_rfl) ((by kernel_rfl : _ = val (aload T2 40 (.pointer (some ⟨B0, 0 + k * 3, none⟩)) HB) HB).trans (val_of ((aload_at gBB).trans (aloadC_rowB (n := 3) (l := ivC b) (by kernel_rfl) (by kernel_rfl) (by kernel_rfl) (ivs_at l k _ hb))))) (by kernel_rfl) (calm_no (by kernel_rfl)) (by kernel_rfl) ?_
        refine aopsV_call 73 13 #[.agg #[.int .i64 a.1, .int .i64 a.2.1, .int .i64 a.2.2], .agg #[.int .i64 b.1, .int .i64 b.2.1, .int .i64 b.2.2]] HB (by kernel_rfl) (by kernel_rfl) (by kernel_rfl) (meet_run a.1 a.2.1 a.2.2 b.1 b.2.1 b.2.2) (fun _ _ _ h => h.2) ?_
        rintro _ H4_ ⟨rfl, uH4_⟩
        have nH4_ := uH4_.n
        refine aopsV_see 73 (.bool true) (see_bool (by kernel_rfl) hmt) ?_
        refine aopsV_go 2 (by kernel_rfl) (by kernel_rfl) ?_
        refine aopsV_val 76 (.pointer (some ⟨C0, 0 + i * 3, none⟩)) H4_ H4_ (by kernel_rfl) ((by kernel_rfl : _ = val (bif (i : Nat).blt l.length then some (.pointer (some ⟨C0, 0 + i * 3, none⟩)) else none) H4_).trans (by rw [show (i : Nat).blt l.length = true from (by rw [blt_dec]; simp only [decide_eq_true_eq]; omega)]; rfl)) (by kernel_rfl) (fun _ => Up.refl _) (by kernel_rfl) ?_
        have gH4_C0 : H4_.get (C0) = some ⟨(ivs l), 41, false⟩ := by rw [uH4_.get _ (by omega)]; exact gCB
        refine aopsV_get 77 (.agg #[.int .i64 a.1, .int .i64 a.2.1, .int .i64 a.2.2]) (.pointer (some ⟨C0, 0 + i * 3, none⟩)) (.tmp 76) H4_ (by kernel_rfl) (by kernel_rfl) (by kernel_rfl) (by kernel_rfl) ((by kernel_rfl : _ = aload T2 41 (.pointer (some ⟨C0, 0 + i * 3, none⟩)) H4_).trans ((aload_at gH4_C0).trans (aloadC_rowB (n := 3) (l := ivC a) (by kernel_rfl) (by kernel_rfl) (by kernel_rfl) (ivs_at l i _ ha)))) (veqs_c (veq_int _ _) (veqs_c (veq_int _ _) (veqs_c (veq_int _ _) rfl))) (lowB_ptr (by omega)) ((by kernel_rfl : _ = val (aload T2 41 (.pointer (some ⟨C0, 0 + i * 3, none⟩)) H4_) H4_).trans (val_to ((aload_at gH4_C0).trans (aloadC_rowB (n := 3) (l := ivC a) (by kernel_rfl) (by kernel_rfl) (by kernel_rfl) (ivs_at l i _ ha))) (by kernel_rfl))) ?_
        refine aopsV_go 2 (by kernel_rfl) (by kernel_rfl) ?_
        refine aopsV_val 80 (.pointer (some ⟨C0, 0 + k * 3, none⟩)) H4_ H4_ (by kernel_rfl) ((by kernel_rfl : _ = val (bif (k : Nat).blt l.length then some (.pointer (some ⟨C0, 0 + k * 3, none⟩)) else none) H4_).trans (by rw [show (k : Nat).blt l.length = true from (by rw [blt_dec]; simp only [decide_eq_true_eq]; omega)]; rfl)) (by kernel_rfl) (fun _ => Up.refl _) (by kernel_rfl) ?_
        refine aopsV_get 81 (.agg #[.int .i64 b.1, .int .i64 b.2.1, .int .i64 b.2.2]) (.pointer (some ⟨C0, 0 + k * 3, none⟩)) (.tmp 80) H4_ (by kernel_rfl) (by kernel_rfl) (by kernel_rfl) (by kernel_rfl) ((by kernel_rfl : _ = aload T2 41 (.pointer (some ⟨C0, 0 + k * 3, none⟩)) H4_).trans ((aload_at gH4_C0).trans (aloadC_rowB (n := 3) (l := ivC b) (by kernel_rfl) (by kernel_rfl) (by kernel_rfl) (ivs_at l k _ hb)))) (veqs_c (veq_int _ _) (veqs_c (veq_int _ _) (veqs_c (veq_int _ _) rfl))) (lowB_ptr (by omega)) ((by kernel_rfl : _ = val (aload T2 41 (.pointer (some ⟨C0, 0 + k * 3, none⟩)) H4_) H4_).trans (val_to ((aload_at gH4_C0).trans (aloadC_rowB (n := 3) (l := ivC b) (by kernel_rfl) (by kernel_rfl) (by kernel_rfl) (ivs_at l k _ hb))) (by kernel_rfl))) ?_
        refine aopsV_call 82 14 #[.agg #[.int .i64 a.1, .int .i64 a.2.1, .int .i64 a.2.2], .agg #[.int .i64 b.1, .int .i64 b.2.1, .int .i64 b.2.2]] H4_ (by kernel_rfl) (by kernel_rfl) (by kernel_rfl) (rmeet_run a.1 a.2.1 a.2.2 b.1 b.2.1 b.2.2) (calm_no (by kernel_rfl)) ?_
        rintro _ H5_ ⟨rfl, uH5_⟩
        have nH5_ := uH5_.n
        refine aopsV_see 82 (.bool true) (see_bool (by kernel_rfl) hmt) ?_
        refine aopsV_go 1 (by kernel_rfl) (by kernel_rfl) ?_
        refine aopsV_end (by kernel_rfl) ?_
        refine cf_go 8 ?_
        refine cf_see 64 (.int .i64 ((k + 1 : Nat) : Int)) (see_int (x := (IntKind.i64.wrap (((k : Nat) : Int) + 1))) (by kernel_rfl) (w64 (by omega) (by omega) (by omega))) ?_
        refine cf_go 2 ?_
        have gH5_B0 : H5_.get (B0) = some ⟨(ivs l), 40, false⟩ := by rw [uH5_.get _ (by omega)]; rw [uH4_.get _ (by omega)]; exact gBB
        have gH5_C0 : H5_.get (C0) = some ⟨(ivs l), 41, false⟩ := by rw [uH5_.get _ (by omega)]; exact gH4_C0
        refine cf_inv Rr2 (by kernel_rfl) (hRr2 _ ⟨l.length - (k + 1), by omega, k + 1, H5_, rfl, by omega, gH5_B0, gH5_C0, by omega, by omega, (show Up H.n H H5_ from ⟨by omega, fun b hb => by rw [uH5_.get _ (by omega), uH4_.get _ (by omega), uHB.get _ (by omega)]⟩), ⟨(by kernel_rfl), (by kernel_rfl), (by kernel_rfl), (by kernel_rfl), (by kernel_rfl), True.intro⟩, (by kernel_rfl)⟩)
      · skip
        refine cf_go 7 ?_
        refine cf_see 62 (.bool true) (see_bool (by kernel_rfl) ((decide_eq_true (by omega)) : ((decide (((k : Nat) : Int) < ((l.length : Nat) : Int)))) = true)) ?_
        refine cf_go 8 ?_
        refine cf_drawV (HB.n) (by kernel_rfl) ?_
        refine aopsV_go 2 (by kernel_rfl) (by kernel_rfl) ?_
        refine aopsV_val 67 (.pointer (some ⟨B0, 0 + i * 3, none⟩)) HB HB (by kernel_rfl) ((by kernel_rfl : _ = val (bif (i : Nat).blt l.length then some (.pointer (some ⟨B0, 0 + i * 3, none⟩)) else none) HB).trans (by rw [show (i : Nat).blt l.length = true from (by rw [blt_dec]; simp only [decide_eq_true_eq]; omega)]; rfl)) (by kernel_rfl) (calm_no (by kernel_rfl)) (by kernel_rfl) ?_
        refine aopsV_val 68 (.agg #[.int .i64 a.1, .int .i64 a.2.1, .int .i64 a.2.2]) HB HB (by kernel_rfl) ((by kernel_rfl : _ = val (aload T2 40 (.pointer (some ⟨B0, 0 + i * 3, none⟩)) HB) HB).trans (val_of ((aload_at gBB).trans (aloadC_rowB (n := 3) (l := ivC a) (by kernel_rfl) (by kernel_rfl) (by kernel_rfl) (ivs_at l i _ ha))))) (by kernel_rfl) (calm_no (by kernel_rfl)) (by kernel_rfl) ?_
        refine aopsV_go 2 (by kernel_rfl) (by kernel_rfl) ?_
        refine aopsV_val 71 (.pointer (some ⟨B0, 0 + k * 3, none⟩)) HB HB (by kernel_rfl) ((by kernel_rfl : _ = val (bif (k : Nat).blt l.length then some (.pointer (some ⟨B0, 0 + k * 3, none⟩)) else none) HB).trans (by rw [show (k : Nat).blt l.length = true from (by rw [blt_dec]; simp only [decide_eq_true_eq]; omega)]; rfl)) (by kernel_rfl) (calm_no (by kernel_rfl)) (by kernel_rfl) ?_
        refine aopsV_val 72 (.agg #[.int .i64 b.1, .int .i64 b.2.1, .int .i64 b.2.2]) HB HB (by kernel_rfl) ((by kernel_rfl : _ = val (aload T2 40 (.pointer (some ⟨B0, 0 + k * 3, none⟩)) HB) HB).trans (val_of ((aload_at gBB).trans (aloadC_rowB (n := 3) (l := ivC b) (by kernel_rfl) (by kernel_rfl) (by kernel_rfl) (ivs_at l k _ hb))))) (by kernel_rfl) (calm_no (by kernel_rfl)) (by kernel_rfl) ?_
        refine aopsV_call 73 13 #[.agg #[.int .i64 a.1, .int .i64 a.2.1, .int .i64 a.2.2], .agg #[.int .i64 b.1, .int .i64 b.2.1, .int .i64 b.2.2]] HB (by kernel_rfl) (by kernel_rfl) (by kernel_rfl) (meet_run a.1 a.2.1 a.2.2 b.1 b.2.1 b.2.2) (fun _ _ _ h => h.2) ?_
        rintro _ H6_ ⟨rfl, uH6_⟩
        have nH6_ := uH6_.n
        refine aopsV_see 73 (.bool false) (see_bool (by kernel_rfl) hmt) ?_
        refine aopsV_go 2 (by kernel_rfl) (by kernel_rfl) ?_
        refine aopsV_val 76 (.pointer (some ⟨C0, 0 + i * 3, none⟩)) H6_ H6_ (by kernel_rfl) ((by kernel_rfl : _ = val (bif (i : Nat).blt l.length then some (.pointer (some ⟨C0, 0 + i * 3, none⟩)) else none) H6_).trans (by rw [show (i : Nat).blt l.length = true from (by rw [blt_dec]; simp only [decide_eq_true_eq]; omega)]; rfl)) (by kernel_rfl) (fun _ => Up.refl _) (by kernel_rfl) ?_
        have gH6_C0 : H6_.get (C0) = some ⟨(ivs l), 41, false⟩ := by rw [uH6_.get _ (by omega)]; exact gCB
        refine aopsV_get 77 (.agg #[.int .i64 a.1, .int .i64 a.2.1, .int .i64 a.2.2]) (.pointer (some ⟨C0, 0 + i * 3, none⟩)) (.tmp 76) H6_ (by kernel_rfl) (by kernel_rfl) (by kernel_rfl) (by kernel_rfl) ((by kernel_rfl : _ = aload T2 41 (.pointer (some ⟨C0, 0 + i * 3, none⟩)) H6_).trans ((aload_at gH6_C0).trans (aloadC_rowB (n := 3) (l := ivC a) (by kernel_rfl) (by kernel_rfl) (by kernel_rfl) (ivs_at l i _ ha)))) (veqs_c (veq_int _ _) (veqs_c (veq_int _ _) (veqs_c (veq_int _ _) rfl))) (lowB_ptr (by omega)) ((by kernel_rfl : _ = val (aload T2 41 (.pointer (some ⟨C0, 0 + i * 3, none⟩)) H6_) H6_).trans (val_to ((aload_at gH6_C0).trans (aloadC_rowB (n := 3) (l := ivC a) (by kernel_rfl) (by kernel_rfl) (by kernel_rfl) (ivs_at l i _ ha))) (by kernel_rfl))) ?_
        refine aopsV_go 2 (by kernel_rfl) (by kernel_rfl) ?_
        refine aopsV_val 80 (.pointer (some ⟨C0, 0 + k * 3, none⟩)) H6_ H6_ (by kernel_rfl) ((by kernel_rfl : _ = val (bif (k : Nat).blt l.length then some (.pointer (some ⟨C0, 0 + k * 3, none⟩)) else none) H6_).trans (by rw [show (k : Nat).blt l.length = true from (by rw [blt_dec]; simp only [decide_eq_true_eq]; omega)]; rfl)) (by kernel_rfl) (fun _ => Up.refl _) (by kernel_rfl) ?_
        refine aopsV_get 81 (.agg #[.int .i64 b.1, .int .i64 b.2.1, .int .i64 b.2.2]) (.pointer (some ⟨C0, 0 + k * 3, none⟩)) (.tmp 80) H6_ (by kernel_rfl) (by kernel_rfl) (by kernel_rfl) (by kernel_rfl) ((by kernel_rfl : _ = aload T2 41 (.pointer (some ⟨C0, 0 + k * 3, none⟩)) H6_).trans ((aload_at gH6_C0).trans (aloadC_rowB (n := 3) (l := ivC b) (by kernel_rfl) (by kernel_rfl) (by kernel_rfl) (ivs_at l k _ hb)))) (veqs_c (veq_int _ _) (veqs_c (veq_int _ _) (veqs_c (veq_int _ _) rfl))) (lowB_ptr (by omega)) ((by kernel_rfl : _ = val (aload T2 41 (.pointer (some ⟨C0, 0 + k * 3, none⟩)) H6_) H6_).trans (val_to ((aload_at gH6_C0).trans (aloadC_rowB (n := 3) (l := ivC b) (by kernel_rfl) (by kernel_rfl) (by kernel_rfl) (ivs_at l k _ hb))) (by kernel_rfl))) ?_
        refine aopsV_call 82 14 #[.agg #[.int .i64 a.1, .int .i64 a.2.1, .int .i64 a.2.2], .agg #[.int .i64 b.1, .int .i64 b.2.1, .int .i64 b.2.2]] H6_ (by kernel_rfl) (by kernel_rfl) (by kernel_rfl) (rmeet_run a.1 a.2.1 a.2.2 b.1 b.2.1 b.2.2) (calm_no (by kernel_rfl)) ?_
        rintro _ H7_ ⟨rfl, uH7_⟩
        have nH7_ := uH7_.n
        refine aopsV_see 82 (.bool false) (see_bool (by kernel_rfl) hmt) ?_
        refine aopsV_go 1 (by kernel_rfl) (by kernel_rfl) ?_
        refine aopsV_end (by kernel_rfl) ?_
        refine cf_go 8 ?_
        refine cf_see 64 (.int .i64 ((k + 1 : Nat) : Int)) (see_int (x := (IntKind.i64.wrap (((k : Nat) : Int) + 1))) (by kernel_rfl) (w64 (by omega) (by omega) (by omega))) ?_
        refine cf_go 2 ?_
        have gH7_B0 : H7_.get (B0) = some ⟨(ivs l), 40, false⟩ := by rw [uH7_.get _ (by omega)]; rw [uH6_.get _ (by omega)]; exact gBB
        have gH7_C0 : H7_.get (C0) = some ⟨(ivs l), 41, false⟩ := by rw [uH7_.get _ (by omega)]; exact gH6_C0
        refine cf_inv Rr2 (by kernel_rfl) (hRr2 _ ⟨l.length - (k + 1), by omega, k + 1, H7_, rfl, by omega, gH7_B0, gH7_C0, by omega, by omega, (show Up H.n H H7_ from ⟨by omega, fun b hb => by rw [uH7_.get _ (by omega), uH6_.get _ (by omega), uHB.get _ (by omega)]⟩), ⟨(by kernel_rfl), (by kernel_rfl), (by kernel_rfl), (by kernel_rfl), (by kernel_rfl), True.intro⟩, (by kernel_rfl)⟩)
    · skip
      have hke : k = l.length := by omega
      refine cf_go 7 ?_
      refine cf_see 62 (.bool false) (see_bool (by kernel_rfl) ((decide_eq_false (by omega)) : ((decide (((k : Nat) : Int) < ((l.length : Nat) : Int)))) = false)) ?_
      refine cf_go 12 ?_
      refine cf_see 21 (.int .i64 ((i + 1 : Nat) : Int)) (see_int (x := (IntKind.i64.wrap (((i : Nat) : Int) + 1))) (by kernel_rfl) (w64 (by omega) (by omega) (by omega))) ?_
      refine cf_go 2 ?_
      refine cf_inv Rr1 (by kernel_rfl) (hRr1 _ ⟨l.length - (i + 1), by omega, i + 1, HB, rfl, by omega, gvX, gwX, (show Up H.n H HB from ⟨by omega, fun b hb => by rw [uHB.get _ (by omega)]⟩), ⟨(by kernel_rfl), (by kernel_rfl), (by kernel_rfl), (by kernel_rfl), True.intro⟩, (by kernel_rfl)⟩)
  · skip
    have hie : i = l.length := by omega
    refine cf_go 7 ?_
    refine cf_see 19 (.bool false) (see_bool (by kernel_rfl) ((decide_eq_false (by omega)) : ((decide (((i : Nat) : Int) < ((l.length : Nat) : Int)))) = false)) ?_
    refine cf_go 11 ?_
    refine cf_call 85 15 #[(.slice pv l.length cv)] HA (by kernel_rfl) (by kernel_rfl) (by kernel_rfl) (press_run hl1 gv9) ?_
    rintro _ H8_ ⟨rfl, uH8_⟩
    have nH8_ := uH8_.n
    refine cf_go 1 ?_
    refine cf_call 87 16 #[(.slice pw l.length cw)] H8_ (by kernel_rfl) (by kernel_rfl) (by kernel_rfl) (rpress_runM hl1 (gw9.keep (lo' := 0) (by omega) (fun b hb1 hb2 => by rw [uH8_.get _ (by omega)]))) ?_
    rintro _ H9_ ⟨rfl, uH9_⟩
    have nH9_ := uH9_.n
    refine cf_go 1 ?_
    refine cf_see 88 (.bool true) (see_bool (by kernel_rfl) ((beq_self_eq_true _) : ((((most l l) : Int) == (most l l))) = true)) ?_
    refine cf_go 4 ?_
    refine cf_end (.bool true) H9_ (by kernel_rfl) (by kernel_rfl) (by kernel_rfl) ?_
    exact ⟨(by kernel_rfl), (show Up H.n H H9_ from ⟨by omega, fun b hb => by rw [uH9_.get _ (by omega), uH8_.get _ (by omega), uHA.get _ (by omega)]⟩)⟩
set_option maxHeartbeats 4000000 in
theorem same_no {H : Heap} {c : List II} {o : List Int} {fl : Int} {pc po : Option Addr} {cc co lo : Nat} (hok : PgOk c o fl) (hgc : Gr H lo 50 5 (.slice pc c.length cc) c.length (iis c)) (hgo : Gr H lo 3 1 (.slice po o.length co) o.length (o.map (Value.int .i64))) : ACall Try.prog T2 8 #[.agg #[(.slice pc c.length cc), .int .i64 0, .int .i64 0, .int .i64 0, .int .i64 0, (.slice po o.length co), .slice none 0 0, .int .i64 fl, .int .u32 0, .int .i64 (-1), .int .i64 0, .int .u32 0, .int .i64 1, .int .i64 (((c.length + 1) : Nat) : Int)]] H fun r H' => r = .bool true ∧ Up H.n H H' := by
  have hlen := hok.len
  obtain ⟨l, hl⟩ : ∃ l, l = ofL maxat c o fl := ⟨_, rfl⟩
  have hlc : l.length ≤ 30 := by rw [hl, ofL_len maxat_len]; exact hlen
  have hl1 : l.length ≤ 1000 := by omega
  refine acall_cf 89 (initTm 0 #[.agg #[(.slice pc c.length cc), .int .i64 0, .int .i64 0, .int .i64 0, .int .i64 0, (.slice po o.length co), .slice none 0 0, .int .i64 fl, .int .u32 0, .int .i64 (-1), .int .i64 0, .int .u32 0, .int .i64 1, .int .i64 (((c.length + 1) : Nat) : Int)]]) rfl f8_fn f8_body rfl rfl ?_
  refine cf_go 2 ?_
  obtain ⟨H1_, hH1_⟩ : ∃ x : Heap, x = H.push ⟨[(.slice pc c.length cc), .int .i64 0, .int .i64 0, .int .i64 0, .int .i64 0, (.slice po o.length co), .slice none 0 0, .int .i64 fl, .int .u32 0, .int .i64 (-1), .int .i64 0, .int .u32 0, .int .i64 1, .int .i64 (((c.length + 1) : Nat) : Int)], 29, false⟩ := ⟨_, rfl⟩
  have nH1_ : H1_.n = H.n + 1 := by rw [hH1_]; rfl
  refine cf_val 1 (.pointer (some ⟨H.n, 0, none⟩)) H1_ (by kernel_rfl) ((by kernel_rfl : _ = some (Res.val (.pointer (some ⟨H.n, 0, none⟩)), H.push ⟨[(.slice pc c.length cc), .int .i64 0, .int .i64 0, .int .i64 0, .int .i64 0, (.slice po o.length co), .slice none 0 0, .int .i64 fl, .int .u32 0, .int .i64 (-1), .int .i64 0, .int .u32 0, .int .i64 1, .int .i64 (((c.length + 1) : Nat) : Int)], 29, false⟩)).trans (by rw [← hH1_])) ?_
  refine cf_go 4 ?_
  refine cf_drawV (H1_.n) (by kernel_rfl) ?_
  have gH1_H_n : H1_.get (H.n) = some ⟨[(.slice pc c.length cc), .int .i64 0, .int .i64 0, .int .i64 0, .int .i64 0, (.slice po o.length co), .slice none 0 0, .int .i64 fl, .int .u32 0, .int .i64 (-1), .int .i64 0, .int .u32 0, .int .i64 1, .int .i64 (((c.length + 1) : Nat) : Int)], 29, false⟩ := by rw [hH1_]; exact (Heap.get_push _ _ _).trans (if_pos rfl)
  refine aopsV_val 7 (.agg #[(.slice pc c.length cc), .int .i64 0, .int .i64 0, .int .i64 0, .int .i64 0, (.slice po o.length co), .slice none 0 0, .int .i64 fl, .int .u32 0, .int .i64 (-1), .int .i64 0, .int .u32 0, .int .i64 1, .int .i64 (((c.length + 1) : Nat) : Int)]) H1_ H1_ (by kernel_rfl) ((by kernel_rfl : _ = val (aload T2 29 (.pointer (some ⟨H.n, 0, none⟩)) H1_) H1_).trans (val_of ((aload_at gH1_H_n).trans (by kernel_rfl)))) (by kernel_rfl) (calm_no (by kernel_rfl)) (by kernel_rfl) ?_
  refine aopsV_call 8 10 #[.agg #[(.slice pc c.length cc), .int .i64 0, .int .i64 0, .int .i64 0, .int .i64 0, (.slice po o.length co), .slice none 0 0, .int .i64 fl, .int .u32 0, .int .i64 (-1), .int .i64 0, .int .u32 0, .int .i64 1, .int .i64 (((c.length + 1) : Nat) : Int)]] H1_ (by kernel_rfl) (by kernel_rfl) (by kernel_rfl) (of_no hok (hgc.keep (lo' := 0) (by omega) (fun b hb1 hb2 => by rw [hH1_, Heap.get_push, if_neg (by omega)])) (hgo.keep (lo' := 0) (by omega) (fun b hb1 hb2 => by rw [hH1_, Heap.get_push, if_neg (by omega)]))) (fun _ _ _ h => h.2) ?_
  rintro _ H2_ ⟨rfl, uH2_⟩
  have nH2_ := uH2_.n
  have gH2_H_n : H2_.get (H.n) = some ⟨[(.slice pc c.length cc), .int .i64 0, .int .i64 0, .int .i64 0, .int .i64 0, (.slice po o.length co), .slice none 0 0, .int .i64 fl, .int .u32 0, .int .i64 (-1), .int .i64 0, .int .u32 0, .int .i64 1, .int .i64 (((c.length + 1) : Nat) : Int)], 29, false⟩ := by rw [uH2_.get _ (by omega)]; exact gH1_H_n
  refine aopsV_get 9 (.agg #[(.slice pc c.length cc), .int .i64 0, .int .i64 0, .int .i64 0, .int .i64 0, (.slice po o.length co), .slice none 0 0, .int .i64 fl, .int .u32 0, .int .i64 (-1), .int .i64 0, .int .u32 0, .int .i64 1, .int .i64 (((c.length + 1) : Nat) : Int)]) (.pointer (some ⟨H.n, 0, none⟩)) (.tmp 1) H2_ (by kernel_rfl) (by kernel_rfl) (by kernel_rfl) (by kernel_rfl) ((by kernel_rfl : _ = aload T2 29 (.pointer (some ⟨H.n, 0, none⟩)) H2_).trans ((aload_at gH2_H_n).trans (by kernel_rfl))) (veqs_c (veq_slice _ _ _) (veqs_c (veq_int _ _) (veqs_c (veq_int _ _) (veqs_c (veq_int _ _) (veqs_c (veq_int _ _) (veqs_c (veq_slice _ _ _) (veqs_c (veq_slice _ _ _) (veqs_c (veq_int _ _) (veqs_c (veq_int _ _) (veqs_c (veq_int _ _) (veqs_c (veq_int _ _) (veqs_c (veq_int _ _) (veqs_c (veq_int _ _) (veqs_c (veq_int _ _) rfl)))))))))))))) (lowB_ptr (by omega)) ((by kernel_rfl : _ = val (aload T2 29 (.pointer (some ⟨H.n, 0, none⟩)) H2_) H2_).trans (val_to ((aload_at gH2_H_n).trans (by kernel_rfl)) (by kernel_rfl))) ?_
  refine aopsV_call 10 19 #[.agg #[(.slice pc c.length cc), .int .i64 0, .int .i64 0, .int .i64 0, .int .i64 0, (.slice po o.length co), .slice none 0 0, .int .i64 fl, .int .u32 0, .int .i64 (-1), .int .i64 0, .int .u32 0, .int .i64 1, .int .i64 (((c.length + 1) : Nat) : Int)]] H2_ (by kernel_rfl) (by kernel_rfl) (by kernel_rfl) (rof_no hok (hgc.keep (lo' := 0) (by omega) (fun b hb1 hb2 => by rw [uH2_.get _ (by omega), hH1_, Heap.get_push, if_neg (by omega)])) (hgo.keep (lo' := 0) (by omega) (fun b hb1 hb2 => by rw [uH2_.get _ (by omega), hH1_, Heap.get_push, if_neg (by omega)]))) (calm_no (by kernel_rfl)) ?_
  rintro _ H3_ ⟨rfl, uH3_⟩
  have nH3_ := uH3_.n
  refine aopsV_go 2 (by kernel_rfl) (by kernel_rfl) ?_
  refine aopsV_end (by kernel_rfl) ?_
  refine cf_go 40 ?_
  refine cf_call 85 15 #[.slice none 0 0] H3_ (by kernel_rfl) (by kernel_rfl) (by kernel_rfl) (press_run (lo := 0) (l := []) (by decide) Gr.nil) ?_
  rintro _ H4_ ⟨rfl, uH4_⟩
  have nH4_ := uH4_.n
  refine cf_go 1 ?_
  refine cf_call 87 16 #[.slice none 0 0] H4_ (by kernel_rfl) (by kernel_rfl) (by kernel_rfl) (rpress_runM (lo := 0) (l := []) (by decide) Gr.nil) ?_
  rintro _ H5_ ⟨rfl, uH5_⟩
  have nH5_ := uH5_.n
  refine cf_go 5 ?_
  refine cf_end (.bool true) H5_ (by kernel_rfl) (by kernel_rfl) (by kernel_rfl) ?_
  exact ⟨(by kernel_rfl), (show Up H.n H H5_ from ⟨by omega, fun b hb => by rw [uH5_.get _ (by omega), uH4_.get _ (by omega), uH3_.get _ (by omega), uH2_.get _ (by omega), hH1_, Heap.get_push, if_neg (by omega)]⟩)⟩
end Lm
end Go.Proofs.Ytahikechkggbfaa
