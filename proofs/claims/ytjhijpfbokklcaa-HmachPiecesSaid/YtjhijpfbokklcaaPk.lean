/- Chapter 4: Load. -/
import Derived.Test.YtjhijpfbokklcaaPj
namespace Go.Proofs.Ytjhijpfbokklcaa
open Go Go.Ev Go.RowKit
set_option linter.unusedVariables false
set_option linter.unusedSimpArgs false
set_option maxRecDepth 100000
namespace Hm
theorem read_ok {c : List Int} {i : Ins5} (hb : ∀ x ∈ c, 0 ≤ x ∧ x < 256) (h : readL c = (i, 0)) : okI i := by
  unfold readL at h
  split at h
  · rename_i x r a b c' d e f
    cases hr : rightV x r a b (num4 c' d e f)
    · rw [hr] at h; simp only [cond_false, Prod.mk.injEq] at h; omega
    · rw [hr] at h
      simp only [cond_true, Prod.mk.injEq] at h
      obtain ⟨rfl, _⟩ := h
      rw [right_eq] at hr
      simp only [Bool.and_eq_true, inT, regV, decide_eq_true_eq] at hr
      have h1 := hb c' (by simp); have h2 := hb d (by simp); have h3 := hb e (by simp); have h4 := hb f (by simp)
      unfold okI num4
      simp only
      omega
  · simp only [Prod.mk.injEq] at h; omega
theorem Dec.ok {l : List Int} {is : List Ins5} (hb : ∀ x ∈ l, 0 ≤ x ∧ x < 256) (h : Dec l is) : ∀ i ∈ is, okI i := fun i hi => by
  obtain ⟨k, hk, rfl⟩ := List.mem_iff_getElem.1 hi
  exact read_ok (fun x hx => hb x (List.mem_of_mem_drop (List.mem_of_mem_take hx))) (h.rd k hk)
section
variable {H : Heap} {pt : Option Addr} {cap : Nat} {l : List Int} {is : List Ins5}
theorem all_ok0 (hB : Byts H (.slice pt l.length cap) l) (hC : CapV pt l.length cap) (hll : l.length ≤ 100000) (hl : l.length = 0) : ACall Try.prog T8 29 #[.slice pt l.length cap] H fun r H' => r = .tuple #[.slice none 0 0, .int .i64 0] ∧ Up H.n H H' :=
  (all_any hB hC hll).mono fun v H' ⟨is, ov, hu, hd, h⟩ => by
    rcases h with ⟨h1, rfl, hg, hnil⟩ | ⟨h1, _⟩
    · obtain rfl := hnil (List.length_eq_zero_iff.1 (by omega))
      exact ⟨rfl, hu⟩
    · omega
theorem all_ok1 (hB : Byts H (.slice pt l.length cap) l) (hC : CapV pt l.length cap) (hll : l.length ≤ 100000) (hd : Dec l is) (hl : l.length = 8 * is.length) (h0 : 0 < is.length) : ACall Try.prog T8 29 #[.slice pt l.length cap] H fun r H' => ∃ B, r = .tuple #[.slice (some ⟨B, 0, none⟩) is.length (unk + 5), .int .i64 0] ∧ H'.get B = some ⟨insC is, 48, false⟩ ∧ B < H'.n ∧ H.n ≤ B ∧ Up H.n H H' :=
  (all_any hB hC hll).mono fun v H' ⟨js, ov, hu, hj, h⟩ => by
    rcases h with ⟨h1, rfl, hg, _⟩ | ⟨h1, er, h2, h3, _⟩
    · obtain rfl := hd.uniq hl hj h1
      rcases hg.at_ with ⟨rfl, _⟩ | ⟨B, rfl, g, hB, hl⟩
      · omega
      · exact ⟨B, rfl, g, hB, hl, hu⟩
    · exact (hd.excl hl hj h1 (by rw [h3]; exact h2)).elim
theorem all_bad (hB : Byts H (.slice pt l.length cap) l) (hC : CapV pt l.length cap) (hll : l.length ≤ 100000) (hn : ¬ ∃ is, Dec l is ∧ l.length = 8 * is.length) : ACall Try.prog T8 29 #[.slice pt l.length cap] H fun r H' => ∃ er : Int, er ≠ 0 ∧ r = .tuple #[.slice none 0 0, .int .i64 er] ∧ Up H.n H H' :=
  (all_any hB hC hll).mono fun v H' ⟨js, ov, hu, hj, h⟩ => by
    rcases h with ⟨h1, _⟩ | ⟨h1, er, h2, h3, rfl⟩
    · exact (hn ⟨js, hj, h1⟩).elim
    · exact ⟨er, h2, rfl, hu⟩
theorem rall_ok0 (hB : Byts H (.slice pt l.length cap) l) (hC : CapV pt l.length cap) (hll : l.length ≤ 100000) (hl : l.length = 0) : ACall Try.prog T8 15 #[.slice pt l.length cap] H fun r H' => r = .tuple #[.slice none 0 0, .bool true] ∧ Up H.n H H' :=
  (rall_any hB hC hll).mono fun v H' ⟨is, ov, hu, hd, h⟩ => by
    rcases h with ⟨h1, rfl, hg, hnil⟩ | ⟨h1, _⟩
    · obtain rfl := hnil (List.length_eq_zero_iff.1 (by omega))
      exact ⟨rfl, hu⟩
    · omega
theorem rall_ok1 (hB : Byts H (.slice pt l.length cap) l) (hC : CapV pt l.length cap) (hll : l.length ≤ 100000) (hd : Dec l is) (hl : l.length = 8 * is.length) (h0 : 0 < is.length) : ACall Try.prog T8 15 #[.slice pt l.length cap] H fun r H' => ∃ B, r = .tuple #[.slice (some ⟨B, 0, none⟩) is.length (unk + 5), .bool true] ∧ H'.get B = some ⟨insC is, 48, false⟩ ∧ B < H'.n ∧ H.n ≤ B ∧ Up H.n H H' :=
  (rall_any hB hC hll).mono fun v H' ⟨js, ov, hu, hj, h⟩ => by
    rcases h with ⟨h1, rfl, hg, _⟩ | ⟨h1, h2, _⟩
    · obtain rfl := hd.uniq hl hj h1
      rcases hg.at_ with ⟨rfl, _⟩ | ⟨B, rfl, g, hB, hl⟩
      · omega
      · exact ⟨B, rfl, g, hB, hl, hu⟩
    · exact (hd.excl hl hj h1 h2).elim
/-- Whether bytes are code: told of both. -/
theorem rall_is (hB : Byts H (.slice pt l.length cap) l) (hC : CapV pt l.length cap) (hll : l.length ≤ 100000) : ACall Try.prog T8 15 #[.slice pt l.length cap] H fun r H' => ∃ ov b, r = .tuple #[ov, .bool b] ∧ (b = true ↔ ∃ is, Dec l is ∧ l.length = 8 * is.length) ∧ Up H.n H H' :=
  (rall_any hB hC hll).mono fun v H' ⟨js, ov, hu, hj, h⟩ => by
    rcases h with ⟨h1, rfl, hg, _⟩ | ⟨h1, h2, o, rfl⟩
    · exact ⟨_, true, rfl, ⟨fun _ => ⟨js, hj, h1⟩, fun _ => rfl⟩, hu⟩
    · exact ⟨_, false, rfl, ⟨fun e => (by cases e), fun ⟨is, hd, hl⟩ => (hd.excl hl hj h1 h2).elim⟩, hu⟩
end
/-- Code in memory. -/
structure CodeAt (H : Heap) (cp : Value) (is : List Ins5) : Prop where
  at_ : Gr H 0 48 5 cp is.length (insC is)
noncomputable def f10b : Code := Try.f10.body.getD .skip
theorem f10_body : Try.f10.body = some f10b := by kernel_rfl
theorem f10_fn : T8.fn 10 = some Try.f10 := by kernel_rfl
noncomputable def f23b : Code := Try.f23.body.getD .skip
theorem f23_body : Try.f23.body = some f23b := by kernel_rfl
theorem f23_fn : T8.fn 23 = some Try.f23 := by kernel_rfl
theorem load_ok0 {H : Heap} {M W n : Nat} {R Wd : List Int} {cp : Value} {pc : Int} {pt : Option Addr} {cap : Nat} {l : List Int} (gM : H.get M = some ⟨macC R W n cp pc, 62, false⟩) (gW : H.get W = some ⟨Wd.map (Value.int .u32), 30, false⟩) (hR : R.length = 16) (hMW : M ≠ W) (hM : M < H.n) (hW : W < H.n) (hB : Byts H (.slice pt l.length cap) l) (hC : CapV pt l.length cap) (hll : l.length ≤ 100000) (hl : l.length = 0) : ACall Try.prog T8 10 #[.pointer (some ⟨M, 0, none⟩), (.slice pt l.length cap)] H fun r H' => r = .int .i64 0 ∧ ∃ cp', Gr H' 0 48 5 cp' ([] : List Ins5).length (insC ([] : List Ins5)) ∧ MTo H H' 62 M W n cp' R Wd 0 := by
  refine acall_cf 22 (initTm 0 #[.pointer (some ⟨M, 0, none⟩), (.slice pt l.length cap)]) rfl f10_fn f10_body rfl rfl ?_
  refine cf_go 8 ?_
  refine cf_call 9 29 #[(.slice pt l.length cap)] H (by kernel_rfl) (by kernel_rfl) (by kernel_rfl) (all_ok0 hB hC hll hl) ?_
  rintro _ H1_ ⟨rfl, uH1_⟩
  have nH1_ := uH1_.n
  refine cf_go 24 ?_
  have gH1_M : H1_.get (M) = some ⟨(R.map (Value.int .u64) ++ [Value.slice (some ⟨W, 0, none⟩) n n, cp, .int .i64 pc]), 62, false⟩ := by rw [uH1_.get _ (by omega)]; exact gM
  obtain ⟨H2_, hH2_⟩ : ∃ x : Heap, x = H1_.put (M) ⟨(R.map (Value.int .u64) ++ [Value.slice (some ⟨W, 0, none⟩) n n, .slice none 0 0, .int .i64 pc]), 62, false⟩ := ⟨_, rfl⟩
  have nH2_ : H2_.n = H1_.n := by rw [hH2_]; rfl
  refine cf_skip H2_ (by kernel_rfl) ((by kernel_rfl : _ = skp (astore T8 22 (.pointer (some ⟨M, 17, none⟩)) (.slice none 0 0) H1_)).trans (by rw [astore_to gH1_M ((astoreC_one (by kernel_rfl) rfl rfl (by first | (rw [ml hR]; omega) | (unfold macC; rw [ml hR]; omega))).trans (congrArg some (ms_17 hR))), ← hH2_]; rfl)) ?_
  refine cf_go 2 ?_
  have gH2_M : H2_.get (M) = some ⟨(R.map (Value.int .u64) ++ [Value.slice (some ⟨W, 0, none⟩) n n, .slice none 0 0, .int .i64 pc]), 62, false⟩ := by rw [hH2_]; exact (Heap.get_put _ _ _ _).trans (if_pos rfl)
  obtain ⟨H3_, hH3_⟩ : ∃ x : Heap, x = H2_.put (M) ⟨(R.map (Value.int .u64) ++ [Value.slice (some ⟨W, 0, none⟩) n n, .slice none 0 0, .int .i64 0]), 62, false⟩ := ⟨_, rfl⟩
  have nH3_ : H3_.n = H2_.n := by rw [hH3_]; rfl
  refine cf_skip H3_ (by kernel_rfl) ((by kernel_rfl : _ = skp (astore T8 3 (.pointer (some ⟨M, 18, none⟩)) (.int .i64 0) H2_)).trans (by rw [astore_to gH2_M ((astoreC_one (by kernel_rfl) rfl rfl (by first | (rw [ml hR]; omega) | (unfold macC; rw [ml hR]; omega))).trans (congrArg some (ms_18 hR))), ← hH3_]; rfl)) ?_
  refine cf_go 8 ?_
  refine cf_end (.int .i64 0) H3_ (by kernel_rfl) (by kernel_rfl) (by kernel_rfl) ?_
  have gH3_M : H3_.get (M) = some ⟨(R.map (Value.int .u64) ++ [Value.slice (some ⟨W, 0, none⟩) n n, .slice none 0 0, .int .i64 0]), 62, false⟩ := by rw [hH3_]; exact (Heap.get_put _ _ _ _).trans (if_pos rfl)
  have gH3_W : H3_.get (W) = some ⟨(Wd.map (Value.int .u32)), 30, false⟩ := by rw [hH3_, Heap.get_put, if_neg (by omega)]; rw [hH2_, Heap.get_put, if_neg (by omega)]; rw [uH1_.get _ (by omega)]; exact gW
  exact ⟨rfl, (.slice none 0 0), .nil, by omega, gH3_M, gH3_W, fun b hb h1 h2 => by rw [hH3_, Heap.get_put, if_neg (by omega), hH2_, Heap.get_put, if_neg (by omega), uH1_.get _ (by omega)]⟩
theorem load_ok1 {H : Heap} {M W n : Nat} {R Wd : List Int} {cp : Value} {pc : Int} {pt : Option Addr} {cap : Nat} {l : List Int} (gM : H.get M = some ⟨macC R W n cp pc, 62, false⟩) (gW : H.get W = some ⟨Wd.map (Value.int .u32), 30, false⟩) (hR : R.length = 16) (hMW : M ≠ W) (hM : M < H.n) (hW : W < H.n) (hB : Byts H (.slice pt l.length cap) l) (hC : CapV pt l.length cap) (hll : l.length ≤ 100000) {is : List Ins5} (hd : Dec l is) (hl : l.length = 8 * is.length) (h0 : 0 < is.length) : ACall Try.prog T8 10 #[.pointer (some ⟨M, 0, none⟩), (.slice pt l.length cap)] H fun r H' => r = .int .i64 0 ∧ ∃ cp', Gr H' 0 48 5 cp' is.length (insC is) ∧ MTo H H' 62 M W n cp' R Wd 0 := by
  refine acall_cf 22 (initTm 0 #[.pointer (some ⟨M, 0, none⟩), (.slice pt l.length cap)]) rfl f10_fn f10_body rfl rfl ?_
  refine cf_go 8 ?_
  refine cf_call 9 29 #[(.slice pt l.length cap)] H (by kernel_rfl) (by kernel_rfl) (by kernel_rfl) (all_ok1 hB hC hll hd hl h0) ?_
  rintro _ H1_ ⟨B, rfl, gB, hB1, hB2, uH1_⟩
  have nH1_ := uH1_.n
  refine cf_go 24 ?_
  have gH1_M : H1_.get (M) = some ⟨(R.map (Value.int .u64) ++ [Value.slice (some ⟨W, 0, none⟩) n n, cp, .int .i64 pc]), 62, false⟩ := by rw [uH1_.get _ (by omega)]; exact gM
  obtain ⟨H2_, hH2_⟩ : ∃ x : Heap, x = H1_.put (M) ⟨(R.map (Value.int .u64) ++ [Value.slice (some ⟨W, 0, none⟩) n n, .slice (some ⟨B, 0, none⟩) is.length (unk + 5), .int .i64 pc]), 62, false⟩ := ⟨_, rfl⟩
  have nH2_ : H2_.n = H1_.n := by rw [hH2_]; rfl
  refine cf_skip H2_ (by kernel_rfl) ((by kernel_rfl : _ = skp (astore T8 22 (.pointer (some ⟨M, 17, none⟩)) (.slice (some ⟨B, 0, none⟩) is.length (unk + 5)) H1_)).trans (by rw [astore_to gH1_M ((astoreC_one (by kernel_rfl) rfl rfl (by first | (rw [ml hR]; omega) | (unfold macC; rw [ml hR]; omega))).trans (congrArg some (ms_17 hR))), ← hH2_]; rfl)) ?_
  refine cf_go 2 ?_
  have gH2_M : H2_.get (M) = some ⟨(R.map (Value.int .u64) ++ [Value.slice (some ⟨W, 0, none⟩) n n, .slice (some ⟨B, 0, none⟩) is.length (unk + 5), .int .i64 pc]), 62, false⟩ := by rw [hH2_]; exact (Heap.get_put _ _ _ _).trans (if_pos rfl)
  obtain ⟨H3_, hH3_⟩ : ∃ x : Heap, x = H2_.put (M) ⟨(R.map (Value.int .u64) ++ [Value.slice (some ⟨W, 0, none⟩) n n, .slice (some ⟨B, 0, none⟩) is.length (unk + 5), .int .i64 0]), 62, false⟩ := ⟨_, rfl⟩
  have nH3_ : H3_.n = H2_.n := by rw [hH3_]; rfl
  refine cf_skip H3_ (by kernel_rfl) ((by kernel_rfl : _ = skp (astore T8 3 (.pointer (some ⟨M, 18, none⟩)) (.int .i64 0) H2_)).trans (by rw [astore_to gH2_M ((astoreC_one (by kernel_rfl) rfl rfl (by first | (rw [ml hR]; omega) | (unfold macC; rw [ml hR]; omega))).trans (congrArg some (ms_18 hR))), ← hH3_]; rfl)) ?_
  refine cf_go 8 ?_
  refine cf_end (.int .i64 0) H3_ (by kernel_rfl) (by kernel_rfl) (by kernel_rfl) ?_
  have gH3_M : H3_.get (M) = some ⟨(R.map (Value.int .u64) ++ [Value.slice (some ⟨W, 0, none⟩) n n, .slice (some ⟨B, 0, none⟩) is.length (unk + 5), .int .i64 0]), 62, false⟩ := by rw [hH3_]; exact (Heap.get_put _ _ _ _).trans (if_pos rfl)
  have gH3_W : H3_.get (W) = some ⟨(Wd.map (Value.int .u32)), 30, false⟩ := by rw [hH3_, Heap.get_put, if_neg (by omega)]; rw [hH2_, Heap.get_put, if_neg (by omega)]; rw [uH1_.get _ (by omega)]; exact gW
  have gH3_B : H3_.get (B) = some ⟨(insC is), 48, false⟩ := by rw [hH3_, Heap.get_put, if_neg (by omega)]; rw [hH2_, Heap.get_put, if_neg (by omega)]; exact gB
  exact ⟨rfl, (.slice (some ⟨B, 0, none⟩) is.length (unk + 5)), ⟨by rw [insC_len], .inr ⟨B, rfl, gH3_B, by omega, Nat.zero_le _⟩⟩, by omega, gH3_M, gH3_W, fun b hb h1 h2 => by rw [hH3_, Heap.get_put, if_neg (by omega), hH2_, Heap.get_put, if_neg (by omega), uH1_.get _ (by omega)]⟩
theorem load_bad {H : Heap} {M W n : Nat} {R Wd : List Int} {cp : Value} {pc : Int} {pt : Option Addr} {cap : Nat} {l : List Int} (gM : H.get M = some ⟨macC R W n cp pc, 62, false⟩) (gW : H.get W = some ⟨Wd.map (Value.int .u32), 30, false⟩) (hR : R.length = 16) (hMW : M ≠ W) (hM : M < H.n) (hW : W < H.n) (hB : Byts H (.slice pt l.length cap) l) (hC : CapV pt l.length cap) (hll : l.length ≤ 100000) (hn : ¬ ∃ is, Dec l is ∧ l.length = 8 * is.length) : ACall Try.prog T8 10 #[.pointer (some ⟨M, 0, none⟩), (.slice pt l.length cap)] H fun r H' => ∃ er : Int, er ≠ 0 ∧ r = .int .i64 er ∧ Up H.n H H' := by
  refine acall_cf 22 (initTm 0 #[.pointer (some ⟨M, 0, none⟩), (.slice pt l.length cap)]) rfl f10_fn f10_body rfl rfl ?_
  refine cf_go 8 ?_
  refine cf_call 9 29 #[(.slice pt l.length cap)] H (by kernel_rfl) (by kernel_rfl) (by kernel_rfl) (all_bad hB hC hll hn) ?_
  rintro _ H1_ ⟨er, her, rfl, uH1_⟩
  have nH1_ := uH1_.n
  refine cf_go 12 ?_
  refine cf_see 13 (.bool true) (see_bool (by kernel_rfl) ((bne_iff_ne.2 (by omega)) : (((er : Int) != 0)) = true)) ?_
  refine cf_go 11 ?_
  refine cf_end (.int .i64 er) H1_ (by kernel_rfl) (by kernel_rfl) (by kernel_rfl) ?_
  exact ⟨er, her, rfl, (show Up H.n H H1_ from ⟨by omega, fun b hb => by rw [uH1_.get _ (by omega)]⟩)⟩
theorem load_ma {H : Heap} {M W : Nat} {cp : Value} {m : Mach} {pt : Option Addr} {cap : Nat} {l : List Int} {is : List Ins5} (h : MA H 62 M W cp m) (hB : Byts H (.slice pt l.length cap) l) (hC : CapV pt l.length cap) (hll : l.length ≤ 100000) (hb : ∀ x ∈ l, 0 ≤ x ∧ x < 256) (hd : Dec l is) (hl : l.length = 8 * is.length) :
    ACall Try.prog T8 10 #[.pointer (some ⟨M, 0, none⟩), (.slice pt l.length cap)] H fun r H' => r = .int .i64 0 ∧ (∃ cp', MA H' 62 M W cp' ⟨m.R, m.Wd, is, 0⟩) ∧ Fr2 H H' M W := by
  have fin : ∀ (r : Value) (H' : Heap), (r = .int .i64 0 ∧ ∃ cp', Gr H' 0 48 5 cp' is.length (insC is) ∧ MTo H H' 62 M W m.Wd.length cp' m.R m.Wd 0) → r = .int .i64 0 ∧ (∃ cp', MA H' 62 M W cp' ⟨m.R, m.Wd, is, 0⟩) ∧ Fr2 H H' M W := fun r H' ⟨e, cp', hg, t⟩ =>
    ⟨e, ⟨cp', t.gM, t.gW, hg, h.hT, h.r16, h.wl, (by show is.length ≤ 100000; omega), Nat.lt_of_lt_of_le h.mn t.hn, Nat.lt_of_lt_of_le h.wn t.hn, (by show (0 : Int) ≤ 0; omega), (by show (0 : Int) ≤ 4294967296; omega), h.rr, h.ww, hd.ok hb⟩, t.hn, t.fr⟩
  rcases Nat.eq_zero_or_pos is.length with h0 | h0
  · obtain rfl : is = [] := List.length_eq_zero_iff.1 h0
    exact (load_ok0 h.hM h.hW h.r16 h.mw h.mn h.wn hB hC hll (by simpa using hl)).mono fin
  · exact (load_ok1 h.hM h.hW h.r16 h.mw h.mn h.wn hB hC hll hd hl h0).mono fin
theorem rload_ok0 {H : Heap} {M W n : Nat} {R Wd : List Int} {cp : Value} {pc : Int} {pt : Option Addr} {cap : Nat} {l : List Int} (gM : H.get M = some ⟨macC R W n cp pc, 58, false⟩) (gW : H.get W = some ⟨Wd.map (Value.int .u32), 30, false⟩) (hR : R.length = 16) (hMW : M ≠ W) (hM : M < H.n) (hW : W < H.n) (hB : Byts H (.slice pt l.length cap) l) (hC : CapV pt l.length cap) (hll : l.length ≤ 100000) (hl : l.length = 0) : ACall Try.prog T8 23 #[.pointer (some ⟨M, 0, none⟩), (.slice pt l.length cap)] H fun r H' => r = .bool true ∧ ∃ cp', Gr H' 0 48 5 cp' ([] : List Ins5).length (insC ([] : List Ins5)) ∧ MTo H H' 58 M W n cp' R Wd 0 := by
  refine acall_cf 21 (initTm 0 #[.pointer (some ⟨M, 0, none⟩), (.slice pt l.length cap)]) rfl f23_fn f23_body rfl rfl ?_
  refine cf_go 8 ?_
  refine cf_call 9 15 #[(.slice pt l.length cap)] H (by kernel_rfl) (by kernel_rfl) (by kernel_rfl) (rall_ok0 hB hC hll hl) ?_
  rintro _ H1_ ⟨rfl, uH1_⟩
  have nH1_ := uH1_.n
  refine cf_go 23 ?_
  have gH1_M : H1_.get (M) = some ⟨(R.map (Value.int .u64) ++ [Value.slice (some ⟨W, 0, none⟩) n n, cp, .int .i64 pc]), 58, false⟩ := by rw [uH1_.get _ (by omega)]; exact gM
  obtain ⟨H2_, hH2_⟩ : ∃ x : Heap, x = H1_.put (M) ⟨(R.map (Value.int .u64) ++ [Value.slice (some ⟨W, 0, none⟩) n n, .slice none 0 0, .int .i64 pc]), 58, false⟩ := ⟨_, rfl⟩
  have nH2_ : H2_.n = H1_.n := by rw [hH2_]; rfl
  refine cf_skip H2_ (by kernel_rfl) ((by kernel_rfl : _ = skp (astore T8 22 (.pointer (some ⟨M, 17, none⟩)) (.slice none 0 0) H1_)).trans (by rw [astore_to gH1_M ((astoreC_one (by kernel_rfl) rfl rfl (by first | (rw [ml hR]; omega) | (unfold macC; rw [ml hR]; omega))).trans (congrArg some (ms_17 hR))), ← hH2_]; rfl)) ?_
  refine cf_go 7 ?_
  have gH2_M : H2_.get (M) = some ⟨(R.map (Value.int .u64) ++ [Value.slice (some ⟨W, 0, none⟩) n n, .slice none 0 0, .int .i64 pc]), 58, false⟩ := by rw [hH2_]; exact (Heap.get_put _ _ _ _).trans (if_pos rfl)
  obtain ⟨H3_, hH3_⟩ : ∃ x : Heap, x = H2_.put (M) ⟨(R.map (Value.int .u64) ++ [Value.slice (some ⟨W, 0, none⟩) n n, .slice none 0 0, .int .i64 0]), 58, false⟩ := ⟨_, rfl⟩
  have nH3_ : H3_.n = H2_.n := by rw [hH3_]; rfl
  refine cf_skip H3_ (by kernel_rfl) ((by kernel_rfl : _ = skp (astore T8 3 (.pointer (some ⟨M, 18, none⟩)) (.int .i64 0) H2_)).trans (by rw [astore_to gH2_M ((astoreC_one (by kernel_rfl) rfl rfl (by first | (rw [ml hR]; omega) | (unfold macC; rw [ml hR]; omega))).trans (congrArg some (ms_18 hR))), ← hH3_]; rfl)) ?_
  refine cf_go 8 ?_
  refine cf_end (.bool true) H3_ (by kernel_rfl) (by kernel_rfl) (by kernel_rfl) ?_
  have gH3_M : H3_.get (M) = some ⟨(R.map (Value.int .u64) ++ [Value.slice (some ⟨W, 0, none⟩) n n, .slice none 0 0, .int .i64 0]), 58, false⟩ := by rw [hH3_]; exact (Heap.get_put _ _ _ _).trans (if_pos rfl)
  have gH3_W : H3_.get (W) = some ⟨(Wd.map (Value.int .u32)), 30, false⟩ := by rw [hH3_, Heap.get_put, if_neg (by omega)]; rw [hH2_, Heap.get_put, if_neg (by omega)]; rw [uH1_.get _ (by omega)]; exact gW
  exact ⟨rfl, (.slice none 0 0), .nil, by omega, gH3_M, gH3_W, fun b hb h1 h2 => by rw [hH3_, Heap.get_put, if_neg (by omega), hH2_, Heap.get_put, if_neg (by omega), uH1_.get _ (by omega)]⟩
theorem rload_ok1 {H : Heap} {M W n : Nat} {R Wd : List Int} {cp : Value} {pc : Int} {pt : Option Addr} {cap : Nat} {l : List Int} (gM : H.get M = some ⟨macC R W n cp pc, 58, false⟩) (gW : H.get W = some ⟨Wd.map (Value.int .u32), 30, false⟩) (hR : R.length = 16) (hMW : M ≠ W) (hM : M < H.n) (hW : W < H.n) (hB : Byts H (.slice pt l.length cap) l) (hC : CapV pt l.length cap) (hll : l.length ≤ 100000) {is : List Ins5} (hd : Dec l is) (hl : l.length = 8 * is.length) (h0 : 0 < is.length) : ACall Try.prog T8 23 #[.pointer (some ⟨M, 0, none⟩), (.slice pt l.length cap)] H fun r H' => r = .bool true ∧ ∃ cp', Gr H' 0 48 5 cp' is.length (insC is) ∧ MTo H H' 58 M W n cp' R Wd 0 := by
  refine acall_cf 21 (initTm 0 #[.pointer (some ⟨M, 0, none⟩), (.slice pt l.length cap)]) rfl f23_fn f23_body rfl rfl ?_
  refine cf_go 8 ?_
  refine cf_call 9 15 #[(.slice pt l.length cap)] H (by kernel_rfl) (by kernel_rfl) (by kernel_rfl) (rall_ok1 hB hC hll hd hl h0) ?_
  rintro _ H1_ ⟨B, rfl, gB, hB1, hB2, uH1_⟩
  have nH1_ := uH1_.n
  refine cf_go 23 ?_
  have gH1_M : H1_.get (M) = some ⟨(R.map (Value.int .u64) ++ [Value.slice (some ⟨W, 0, none⟩) n n, cp, .int .i64 pc]), 58, false⟩ := by rw [uH1_.get _ (by omega)]; exact gM
  obtain ⟨H2_, hH2_⟩ : ∃ x : Heap, x = H1_.put (M) ⟨(R.map (Value.int .u64) ++ [Value.slice (some ⟨W, 0, none⟩) n n, .slice (some ⟨B, 0, none⟩) is.length (unk + 5), .int .i64 pc]), 58, false⟩ := ⟨_, rfl⟩
  have nH2_ : H2_.n = H1_.n := by rw [hH2_]; rfl
  refine cf_skip H2_ (by kernel_rfl) ((by kernel_rfl : _ = skp (astore T8 22 (.pointer (some ⟨M, 17, none⟩)) (.slice (some ⟨B, 0, none⟩) is.length (unk + 5)) H1_)).trans (by rw [astore_to gH1_M ((astoreC_one (by kernel_rfl) rfl rfl (by first | (rw [ml hR]; omega) | (unfold macC; rw [ml hR]; omega))).trans (congrArg some (ms_17 hR))), ← hH2_]; rfl)) ?_
  refine cf_go 7 ?_
  have gH2_M : H2_.get (M) = some ⟨(R.map (Value.int .u64) ++ [Value.slice (some ⟨W, 0, none⟩) n n, .slice (some ⟨B, 0, none⟩) is.length (unk + 5), .int .i64 pc]), 58, false⟩ := by rw [hH2_]; exact (Heap.get_put _ _ _ _).trans (if_pos rfl)
  obtain ⟨H3_, hH3_⟩ : ∃ x : Heap, x = H2_.put (M) ⟨(R.map (Value.int .u64) ++ [Value.slice (some ⟨W, 0, none⟩) n n, .slice (some ⟨B, 0, none⟩) is.length (unk + 5), .int .i64 0]), 58, false⟩ := ⟨_, rfl⟩
  have nH3_ : H3_.n = H2_.n := by rw [hH3_]; rfl
  refine cf_skip H3_ (by kernel_rfl) ((by kernel_rfl : _ = skp (astore T8 3 (.pointer (some ⟨M, 18, none⟩)) (.int .i64 0) H2_)).trans (by rw [astore_to gH2_M ((astoreC_one (by kernel_rfl) rfl rfl (by first | (rw [ml hR]; omega) | (unfold macC; rw [ml hR]; omega))).trans (congrArg some (ms_18 hR))), ← hH3_]; rfl)) ?_
  refine cf_go 8 ?_
  refine cf_end (.bool true) H3_ (by kernel_rfl) (by kernel_rfl) (by kernel_rfl) ?_
  have gH3_M : H3_.get (M) = some ⟨(R.map (Value.int .u64) ++ [Value.slice (some ⟨W, 0, none⟩) n n, .slice (some ⟨B, 0, none⟩) is.length (unk + 5), .int .i64 0]), 58, false⟩ := by rw [hH3_]; exact (Heap.get_put _ _ _ _).trans (if_pos rfl)
  have gH3_W : H3_.get (W) = some ⟨(Wd.map (Value.int .u32)), 30, false⟩ := by rw [hH3_, Heap.get_put, if_neg (by omega)]; rw [hH2_, Heap.get_put, if_neg (by omega)]; rw [uH1_.get _ (by omega)]; exact gW
  have gH3_B : H3_.get (B) = some ⟨(insC is), 48, false⟩ := by rw [hH3_, Heap.get_put, if_neg (by omega)]; rw [hH2_, Heap.get_put, if_neg (by omega)]; exact gB
  exact ⟨rfl, (.slice (some ⟨B, 0, none⟩) is.length (unk + 5)), ⟨by rw [insC_len], .inr ⟨B, rfl, gH3_B, by omega, Nat.zero_le _⟩⟩, by omega, gH3_M, gH3_W, fun b hb h1 h2 => by rw [hH3_, Heap.get_put, if_neg (by omega), hH2_, Heap.get_put, if_neg (by omega), uH1_.get _ (by omega)]⟩
theorem rload_ma {H : Heap} {M W : Nat} {cp : Value} {m : Mach} {pt : Option Addr} {cap : Nat} {l : List Int} {is : List Ins5} (h : MA H 58 M W cp m) (hB : Byts H (.slice pt l.length cap) l) (hC : CapV pt l.length cap) (hll : l.length ≤ 100000) (hb : ∀ x ∈ l, 0 ≤ x ∧ x < 256) (hd : Dec l is) (hl : l.length = 8 * is.length) :
    ACall Try.prog T8 23 #[.pointer (some ⟨M, 0, none⟩), (.slice pt l.length cap)] H fun r H' => r = .bool true ∧ (∃ cp', MA H' 58 M W cp' ⟨m.R, m.Wd, is, 0⟩) ∧ Fr2 H H' M W := by
  have fin : ∀ (r : Value) (H' : Heap), (r = .bool true ∧ ∃ cp', Gr H' 0 48 5 cp' is.length (insC is) ∧ MTo H H' 58 M W m.Wd.length cp' m.R m.Wd 0) → r = .bool true ∧ (∃ cp', MA H' 58 M W cp' ⟨m.R, m.Wd, is, 0⟩) ∧ Fr2 H H' M W := fun r H' ⟨e, cp', hg, t⟩ =>
    ⟨e, ⟨cp', t.gM, t.gW, hg, h.hT, h.r16, h.wl, (by show is.length ≤ 100000; omega), Nat.lt_of_lt_of_le h.mn t.hn, Nat.lt_of_lt_of_le h.wn t.hn, (by show (0 : Int) ≤ 0; omega), (by show (0 : Int) ≤ 4294967296; omega), h.rr, h.ww, hd.ok hb⟩, t.hn, t.fr⟩
  rcases Nat.eq_zero_or_pos is.length with h0 | h0
  · obtain rfl : is = [] := List.length_eq_zero_iff.1 h0
    exact (rload_ok0 h.hM h.hW h.r16 h.mw h.mn h.wn hB hC hll (by simpa using hl)).mono fin
  · exact (rload_ok1 h.hM h.hW h.r16 h.mw h.mn h.wn hB hC hll hd hl h0).mono fin
end Hm
end Go.Proofs.Ytjhijpfbokklcaa
