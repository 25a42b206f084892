/- Chapter 4: code that is made. -/
import Derived.Test.YtjhijpfbokklcaaPk
namespace Go.Proofs.Ytjhijpfbokklcaa
open Go Go.Ev Go.RowKit
set_option linter.unusedVariables false
set_option linter.unusedSimpArgs false
set_option maxRecDepth 100000
namespace Hm
def enc8 (op rd ra rb im : Int) : List Value := [.int .u8 (IntKind.u8.wrap op), .int .u8 (IntKind.u8.wrap rd), .int .u8 (IntKind.u8.wrap ra), .int .u8 (IntKind.u8.wrap rb), .int .u8 (IntKind.u8.wrap im), .int .u8 (IntKind.u8.wrap (Int.fdiv im 256)), .int .u8 (IntKind.u8.wrap (Int.fdiv im 65536)), .int .u8 (IntKind.u8.wrap (Int.fdiv im 16777216))]
def encL (i : Ins5) : List Int := [i.1, i.2.1, i.2.2.1, i.2.2.2.1, i.2.2.2.2, Int.fdiv i.2.2.2.2 256, Int.fdiv i.2.2.2.2 65536, Int.fdiv i.2.2.2.2 16777216].map fun x => IntKind.u8.wrap x
theorem encL_in (i : Ins5) : ∀ x ∈ encL i, 0 ≤ x ∧ x < 256 := by
  intro x hx
  obtain ⟨y, _, rfl⟩ := List.mem_map.1 hx
  rw [IntKind.wrap_u8]; omega
theorem enc_num {im : Int} (h0 : 0 ≤ im) (h1 : im < 4294967296) : num4 (IntKind.u8.wrap im) (IntKind.u8.wrap (Int.fdiv im 256)) (IntKind.u8.wrap (Int.fdiv im 65536)) (IntKind.u8.wrap (Int.fdiv im 16777216)) = im := by
  rw [Int.fdiv_eq_ediv_of_nonneg _ (by omega), Int.fdiv_eq_ediv_of_nonneg _ (by omega), Int.fdiv_eq_ediv_of_nonneg _ (by omega)]
  simp only [num4, IntKind.wrap_u8]
  omega
/-- Right instructions that are written are read. -/
theorem read_encL {i : Ins5} (h : okI i) (hr : rightV i.1 i.2.1 i.2.2.1 i.2.2.2.1 i.2.2.2.2 = true) : readL (encL i) = (i, 0) := by
  obtain ⟨op, rd, ra, rb, im⟩ := i
  obtain ⟨⟨a0, a1⟩, ⟨b0, b1⟩, ⟨c0, c1⟩, ⟨d0, d1⟩, e0, e1⟩ := h
  simp only at *
  have w : ∀ x : Int, 0 ≤ x → x < 256 → IntKind.u8.wrap x = x := fun x h0 h1 => by rw [IntKind.wrap_u8]; omega
  unfold encL readL
  simp only [List.map_cons, List.map_nil]
  rw [w op a0 (by omega), w rd b0 (by omega), w ra c0 (by omega), w rb d0 (by omega), enc_num e0 e1, hr]
  rfl
/-- An instruction with just the fields that its operation names. -/
def madeI (tame : Bool) (i : Ins5) : Ins5 := (i.1 % 20, pick0 (rdB (i.1 % 20)) (i.2.1 % 16), pick0 (raB (i.1 % 20)) (i.2.2.1 % 16), pick0 (rbB (i.1 % 20)) (i.2.2.2.1 % 16), pick0 (imB (i.1 % 20)) (bif tame then i.2.2.2.2 % 40 else i.2.2.2.2))
theorem pick_in {b : Bool} {x lo hi : Int} (h0 : lo ≤ 0) (h1 : 0 < hi) (h2 : lo ≤ x) (h3 : x < hi) : lo ≤ pick0 b x ∧ pick0 b x < hi := by
  cases b
  · exact ⟨h0, h1⟩
  · exact ⟨h2, h3⟩
theorem made_ok {t : Bool} {i : Ins5} (h : 0 ≤ i.2.2.2.2 ∧ i.2.2.2.2 < 4294967296) : okI (madeI t i) := by
  have him : 0 ≤ (bif t then i.2.2.2.2 % 40 else i.2.2.2.2) ∧ (bif t then i.2.2.2.2 % 40 else i.2.2.2.2) < 4294967296 := by cases t <;> simp only [cond_true, cond_false] <;> omega
  exact ⟨by simp only [madeI]; omega, pick_in (by omega) (by omega) (by omega) (by omega), pick_in (by omega) (by omega) (by omega) (by omega), pick_in (by omega) (by omega) (by omega) (by omega), pick_in (by omega) (by omega) him.1 him.2⟩
theorem made_right (t : Bool) (i : Ins5) : rightV (madeI t i).1 (madeI t i).2.1 (madeI t i).2.2.1 (madeI t i).2.2.2.1 (madeI t i).2.2.2.2 = true := by
  have hok : ∀ (b : Bool) (x : Int), Hm.okB b (pick0 b (x % 16)) = true := by
    intro b x
    cases b
    · rfl
    · have h1 : 0 ≤ x % 16 := by omega
      have h2 : x % 16 < 16 := by omega
      simp [Hm.okB, regV, pick0, h1, h2]
  have hin : inT (i.1 % 20) = true := by simp [inT]; omega
  have him : ∀ x, (imB (i.1 % 20) || pick0 (imB (i.1 % 20)) x == 0) = true := fun x => by cases imB (i.1 % 20) <;> rfl
  simp only [madeI, rightV, hok, hin, him, Bool.and_self]
/-- Code: so many bytes. -/
def codeB (is : List Ins5) : List Int := is.flatMap encL
theorem codeB_snoc (is : List Ins5) (i : Ins5) : codeB (is ++ [i]) = codeB is ++ encL i := by simp [codeB]
theorem codeB_len (is : List Ins5) : (codeB is).length = 8 * is.length := by
  induction is with
  | nil => rfl
  | cons a l ih => simp only [codeB, List.flatMap_cons, List.length_append] at ih ⊢; rw [ih]; simp [encL]; omega
theorem codeB_in (is : List Ins5) : ∀ x ∈ codeB is, 0 ≤ x ∧ x < 256 := fun x hx => by
  obtain ⟨i, _, h⟩ := List.mem_flatMap.1 hx
  exact encL_in i x h
theorem codeB_at : ∀ (is : List Ins5) (k : Nat) (h : k < is.length), ((codeB is).drop (8 * k)).take 8 = encL is[k] := by
  intro is
  induction is with
  | nil => intro k h; simp at h
  | cons a l ih =>
    intro k h
    cases k with
    | zero => simp [codeB, encL]
    | succ k =>
      have h2 := ih k (by simpa using h)
      have e : (codeB (a :: l)).drop (8 * (k + 1)) = (codeB l).drop (8 * k) := by
        show (encL a ++ codeB l).drop _ = _
        rw [show 8 * (k + 1) = (encL a).length + 8 * k by simp [encL]; omega, List.drop_length_add_append]
      rw [e, h2]; rfl
theorem codeB_dec {is : List Ins5} (h : ∀ i ∈ is, okI i ∧ rightV i.1 i.2.1 i.2.2.1 i.2.2.2.1 i.2.2.2.2 = true) : Dec (codeB is) is :=
  ⟨by rw [codeB_len]; exact Nat.le_refl _, fun k hk => by rw [codeB_at is k hk]; exact read_encL (h _ (List.getElem_mem hk)).1 (h _ (List.getElem_mem hk)).2⟩
theorem Gr.code {H : Heap} {lo : Nat} {v : Value} {is : List Ins5} {i : Ins5} (h : Gr H lo 5 1 v ((codeB is).length + 8) ((codeB is).map (Value.int .u8) ++ enc8 i.1 i.2.1 i.2.2.1 i.2.2.2.1 i.2.2.2.2)) : Gr H lo 5 1 v (codeB (is ++ [i])).length ((codeB (is ++ [i])).map (Value.int .u8)) := by
  rw [codeB_snoc, List.length_append, List.map_append]
  exact h
/-- A slice that has grown, as bytes. -/
theorem Gr.view {H : Heap} {lo : Nat} {v : Value} {l : List Int} (hb : ∀ x ∈ l, 0 ≤ x ∧ x < 256) (h : Gr H lo 5 1 v l.length (l.map (Value.int .u8))) : ∃ pt cap, v = .slice pt l.length cap ∧ Byts H (.slice pt l.length cap) l ∧ CapV pt l.length cap := by
  have hB := Gr.byts hb h
  rcases h.at_ with ⟨h1, h2⟩ | ⟨B, h1, h2, h3, _⟩
  · have : l = [] := List.length_eq_zero_iff.1 h2
    subst this
    exact ⟨none, 0, h1, by rw [h1] at hB; exact hB, ⟨.inl ⟨by simp, by unfold unk; omega⟩⟩⟩
  · exact ⟨some ⟨B, 0, none⟩, unk + 1, h1, by rw [h1] at hB; exact hB, ⟨.inr ⟨rfl, by simp⟩⟩⟩
/-- A row of instructions that came in. -/
structure InsA (H : Heap) (v : Value) (L : List Ins5) : Prop where
  at_ : (∃ cap, v = .slice none 0 cap ∧ L = []) ∨ ∃ A off cap cells e ro, v = .slice (some ⟨A, off, none⟩) L.length cap ∧ H.get A = some ⟨cells, e, ro⟩ ∧ A < H.n ∧ ∀ k (h : k < L.length) j, j < 5 → cells[off + k * 5 + j]? = (insCs L[k])[j]?
noncomputable def f20b : Code := Try.f20.body.getD .skip
theorem f20_body : Try.f20.body = some f20b := by kernel_rfl
theorem f20_fn : T8.fn 20 = some Try.f20 := by kernel_rfl
theorem renc {op rd ra rb im : Int} {H : Heap} : ACall Try.prog T8 20 #[.agg #[.int .i64 op, .int .i64 rd, .int .i64 ra, .int .i64 rb, .int .u32 im]] H fun r H' => ∃ B, r = .slice (some ⟨B, 0, none⟩) 8 8 ∧ H'.get B = some ⟨enc8 op rd ra rb im, 5, false⟩ ∧ B < H'.n ∧ H.n ≤ B ∧ Up H.n H H' := by
  refine acall_cf 31 (initTm 0 #[.agg #[.int .i64 op, .int .i64 rd, .int .i64 ra, .int .i64 rb, .int .u32 im]]) rfl f20_fn f20_body rfl rfl ?_
  refine cf_go 2 ?_
  obtain ⟨H1_, hH1_⟩ : ∃ x : Heap, x = H.push ⟨[Value.int .i64 op, .int .i64 rd, .int .i64 ra, .int .i64 rb, .int .u32 im], 48, false⟩ := ⟨_, rfl⟩
  have nH1_ : H1_.n = H.n + 1 := by rw [hH1_]; rfl
  refine cf_val 1 (.pointer (some ⟨H.n, 0, none⟩)) H1_ (by kernel_rfl) ((by kernel_rfl : _ = some (Res.val (.pointer (some ⟨H.n, 0, none⟩)), H.push ⟨[Value.int .i64 op, .int .i64 rd, .int .i64 ra, .int .i64 rb, .int .u32 im], 48, false⟩)).trans (by rw [← hH1_])) ?_
  refine cf_go 6 ?_
  have gH1_H_n : H1_.get (H.n) = some ⟨[Value.int .i64 op, .int .i64 rd, .int .i64 ra, .int .i64 rb, .int .u32 im], 48, false⟩ := by rw [hH1_]; exact (Heap.get_push _ _ _).trans (if_pos rfl)
  refine cf_val 4 (.int .i64 op) H1_ (by kernel_rfl) ((by kernel_rfl : _ = val (aload T8 3 (.pointer (some ⟨H.n, 0, none⟩)) H1_) H1_).trans (val_of ((aload_at gH1_H_n).trans (by kernel_rfl)))) ?_
  refine cf_go 2 ?_
  refine cf_val 7 (.int .i64 rd) H1_ (by kernel_rfl) ((by kernel_rfl : _ = val (aload T8 3 (.pointer (some ⟨H.n, 1, none⟩)) H1_) H1_).trans (val_of ((aload_at gH1_H_n).trans (by kernel_rfl)))) ?_
  refine cf_go 2 ?_
  refine cf_val 10 (.int .i64 ra) H1_ (by kernel_rfl) ((by kernel_rfl : _ = val (aload T8 3 (.pointer (some ⟨H.n, 2, none⟩)) H1_) H1_).trans (val_of ((aload_at gH1_H_n).trans (by kernel_rfl)))) ?_
  refine cf_go 2 ?_
  refine cf_val 13 (.int .i64 rb) H1_ (by kernel_rfl) ((by kernel_rfl : _ = val (aload T8 3 (.pointer (some ⟨H.n, 3, none⟩)) H1_) H1_).trans (val_of ((aload_at gH1_H_n).trans (by kernel_rfl)))) ?_
  refine cf_go 2 ?_
  refine cf_val 16 (.int .u32 im) H1_ (by kernel_rfl) ((by kernel_rfl : _ = val (aload T8 30 (.pointer (some ⟨H.n, 4, none⟩)) H1_) H1_).trans (val_of ((aload_at gH1_H_n).trans (by kernel_rfl)))) ?_
  refine cf_go 2 ?_
  refine cf_val 19 (.int .u32 im) H1_ (by kernel_rfl) ((by kernel_rfl : _ = val (aload T8 30 (.pointer (some ⟨H.n, 4, none⟩)) H1_) H1_).trans (val_of ((aload_at gH1_H_n).trans (by kernel_rfl)))) ?_
  refine cf_go 3 ?_
  refine cf_val 23 (.int .u32 im) H1_ (by kernel_rfl) ((by kernel_rfl : _ = val (aload T8 30 (.pointer (some ⟨H.n, 4, none⟩)) H1_) H1_).trans (val_of ((aload_at gH1_H_n).trans (by kernel_rfl)))) ?_
  refine cf_go 3 ?_
  refine cf_val 27 (.int .u32 im) H1_ (by kernel_rfl) ((by kernel_rfl : _ = val (aload T8 30 (.pointer (some ⟨H.n, 4, none⟩)) H1_) H1_).trans (val_of ((aload_at gH1_H_n).trans (by kernel_rfl)))) ?_
  refine cf_go 2 ?_
  obtain ⟨H2_, hH2_⟩ : ∃ x : Heap, x = H1_.push ⟨[Value.int .u8 (IntKind.u8.wrap op), .int .u8 (IntKind.u8.wrap rd), .int .u8 (IntKind.u8.wrap ra), .int .u8 (IntKind.u8.wrap rb), .int .u8 (IntKind.u8.wrap im), .int .u8 (IntKind.u8.wrap (Int.fdiv im 256)), .int .u8 (IntKind.u8.wrap (Int.fdiv im 65536)), .int .u8 (IntKind.u8.wrap (Int.fdiv im 16777216))], 5, false⟩ := ⟨_, rfl⟩
  have nH2_ : H2_.n = H1_.n + 1 := by rw [hH2_]; rfl
  refine cf_val 30 (.slice (some ⟨H1_.n, 0, none⟩) 8 8) H2_ (by kernel_rfl) ((by kernel_rfl : _ = some (Res.val (.slice (some ⟨H1_.n, 0, none⟩) 8 8), H1_.push ⟨[Value.int .u8 (IntKind.u8.wrap op), .int .u8 (IntKind.u8.wrap rd), .int .u8 (IntKind.u8.wrap ra), .int .u8 (IntKind.u8.wrap rb), .int .u8 (IntKind.u8.wrap im), .int .u8 (IntKind.u8.wrap (Int.fdiv im 256)), .int .u8 (IntKind.u8.wrap (Int.fdiv im 65536)), .int .u8 (IntKind.u8.wrap (Int.fdiv im 16777216))], 5, false⟩)).trans (by rw [← hH2_])) ?_
  refine cf_go 4 ?_
  refine cf_end (.slice (some ⟨H1_.n, 0, none⟩) 8 8) H2_ (by kernel_rfl) (by kernel_rfl) (by kernel_rfl) ?_
  have gH2_H1__n : H2_.get (H1_.n) = some ⟨[Value.int .u8 (IntKind.u8.wrap op), .int .u8 (IntKind.u8.wrap rd), .int .u8 (IntKind.u8.wrap ra), .int .u8 (IntKind.u8.wrap rb), .int .u8 (IntKind.u8.wrap im), .int .u8 (IntKind.u8.wrap (Int.fdiv im 256)), .int .u8 (IntKind.u8.wrap (Int.fdiv im 65536)), .int .u8 (IntKind.u8.wrap (Int.fdiv im 16777216))], 5, false⟩ := by rw [hH2_]; exact (Heap.get_push _ _ _).trans (if_pos rfl)
  exact ⟨H1_.n, rfl, gH2_H1__n, by omega, by omega, (show Up H.n H H2_ from ⟨by omega, fun b hb => by rw [hH2_, Heap.get_push, if_neg (by omega), hH1_, Heap.get_push, if_neg (by omega)]⟩)⟩
noncomputable def f9b : Code := Try.f9.body.getD .skip
theorem f9_body : Try.f9.body = some f9b := by kernel_rfl
theorem f9_fn : T8.fn 9 = some Try.f9 := by kernel_rfl
theorem bit_of {o : Int} (h0 : 0 ≤ o) (h1 : o < 20) : (((IntKind.i64.wrap (((BitVec.ofInt 64 (fieldsV o) &&& BitVec.ofInt 64 1).toNat : Nat) : Int)) : Int) != 0) = rdB o ∧ (((IntKind.i64.wrap (((BitVec.ofInt 64 (fieldsV o) &&& BitVec.ofInt 64 2).toNat : Nat) : Int)) : Int) != 0) = raB o ∧ (((IntKind.i64.wrap (((BitVec.ofInt 64 (fieldsV o) &&& BitVec.ofInt 64 4).toNat : Nat) : Int)) : Int) != 0) = rbB o ∧ (((IntKind.i64.wrap (((BitVec.ofInt 64 (fieldsV o) &&& BitVec.ofInt 64 8).toNat : Nat) : Int)) : Int) != 0) = imB o := by
  rcases (by omega : o = 0 ∨ o = 1 ∨ o = 2 ∨ o = 3 ∨ o = 4 ∨ o = 5 ∨ o = 6 ∨ o = 7 ∨ o = 8 ∨ o = 9 ∨ o = 10 ∨ o = 11 ∨ o = 12 ∨ o = 13 ∨ o = 14 ∨ o = 15 ∨ o = 16 ∨ o = 17 ∨ o = 18 ∨ o = 19) with rfl | rfl | rfl | rfl | rfl | rfl | rfl | rfl | rfl | rfl | rfl | rfl | rfl | rfl | rfl | rfl | rfl | rfl | rfl | rfl <;> exact ⟨by kernel_rfl, by kernel_rfl, by kernel_rfl, by kernel_rfl⟩
set_option maxHeartbeats 2000000 in
theorem made_0 {H : Heap} {cap : Nat} {L : List Ins5} {t : Bool} {pt : Option Addr} (h0 : L.length = 0) : ACall Try.prog T8 9 #[(.slice pt L.length cap), .bool t] H fun r H' => ∃ ov, r = ov ∧ Gr H' H.n 5 1 ov (codeB ((L.take 30).map (madeI t))).length ((codeB ((L.take 30).map (madeI t))).map (Value.int .u8)) ∧ Up H.n H H' := by
  refine acall_cf 78 (initTm 0 #[(.slice pt L.length cap), .bool t]) rfl f9_fn f9_body rfl rfl ?_
  refine cf_go 17 ?_
  refine cf_loop 78 (cl (cl (cr (cl (cr (cr f9b)))))) [.blk 0, .next (cr (cr (cr f9b)))] (by kernel_rfl) (by kernel_rfl) (by kernel_rfl) (fun m st => ∃ (k : Nat) (ov : Value) (H1 : Heap), m = 30 - k ∧ k ≤ 30 ∧ k ≤ L.length ∧ Kn st.tm [(0, .slice pt L.length cap), (1, .bool t), (5, ov), (6, .int .i64 ((k : Nat) : Int))] ∧ st.H = H1 ∧ Up H.n H H1 ∧ Gr H1 H.n 5 1 ov (codeB ((L.take k).map (madeI t))).length ((codeB ((L.take k).map (madeI t))).map (Value.int .u8))) (30) ⟨0, .slice none 0 0, H, by omega, by omega, by omega, ⟨(by kernel_rfl), (by kernel_rfl), (by kernel_rfl), (by kernel_rfl), True.intro⟩, (by kernel_rfl), Up.refl H, Gr.nil⟩ ?_
  rintro m st ⟨k, ov, H1, hm, hk, hkl, hkn, hH, uH1, hgr⟩ Rr1 hRr1
  refine cf_kn [(0, .slice pt L.length cap), (1, .bool t), (5, ov), (6, .int .i64 ((k : Nat) : Int))] hkn hH fun tm => ?_
  have nH1 := uH1.n
  have hcl : (codeB ((L.take k).map (madeI t))).length = 8 * k := by rw [codeB_len]; simp; omega
  refine cf_go 7 ?_
  refine cf_see 12 (.bool false) (see_bool (by kernel_rfl) ((decide_eq_false (by omega)) : ((decide (((k : Nat) : Int) < ((L.length : Nat) : Int)))) = false)) ?_
  refine cf_go 19 ?_
  refine cf_end (ov) H1 (by kernel_rfl) (by kernel_rfl) (by kernel_rfl) ?_
  have e : L.take k = L.take 30 := by rcases (by omega : k = 30 ∨ k = L.length) with rfl | rfl; rfl; rw [List.take_length, List.take_of_length_le (by omega)]
  exact ⟨ov, rfl, by rw [← e]; exact hgr, uH1⟩
set_option maxHeartbeats 2000000 in
theorem made_1 {H : Heap} {cap : Nat} {L : List Ins5} {t : Bool} {A off : Nat} {cells : List Value} {e : TypeId} {ro : Bool} (gA : H.get A = some ⟨cells, e, ro⟩) (hAn : A < H.n) (hA : ∀ k (h : k < L.length) j, j < 5 → cells[off + k * 5 + j]? = (insCs L[k])[j]?) (hL : ∀ i ∈ L, i64B i.1 = true ∧ i64B i.2.1 = true ∧ i64B i.2.2.1 = true ∧ i64B i.2.2.2.1 = true ∧ 0 ≤ i.2.2.2.2 ∧ i.2.2.2.2 < 4294967296) : ACall Try.prog T8 9 #[.slice (some ⟨A, off, none⟩) L.length cap, .bool t] H fun r H' => ∃ ov, r = ov ∧ Gr H' H.n 5 1 ov (codeB ((L.take 30).map (madeI t))).length ((codeB ((L.take 30).map (madeI t))).map (Value.int .u8)) ∧ Up H.n H H' := by
  refine acall_cf 78 (initTm 0 #[.slice (some ⟨A, off, none⟩) L.length cap, .bool t]) rfl f9_fn f9_body rfl rfl ?_
  refine cf_go 17 ?_
  refine cf_loop 78 (cl (cl (cr (cl (cr (cr f9b)))))) [.blk 0, .next (cr (cr (cr f9b)))] (by kernel_rfl) (by kernel_rfl) (by kernel_rfl) (fun m st => ∃ (k : Nat) (ov : Value) (H1 : Heap), m = 30 - k ∧ k ≤ 30 ∧ k ≤ L.length ∧ Kn st.tm [(0, .slice (some ⟨A, off, none⟩) L.length cap), (1, .bool t), (5, ov), (6, .int .i64 ((k : Nat) : Int))] ∧ st.H = H1 ∧ Up H.n H H1 ∧ Gr H1 H.n 5 1 ov (codeB ((L.take k).map (madeI t))).length ((codeB ((L.take k).map (madeI t))).map (Value.int .u8))) (30) ⟨0, .slice none 0 0, H, by omega, by omega, by omega, ⟨(by kernel_rfl), (by kernel_rfl), (by kernel_rfl), (by kernel_rfl), True.intro⟩, (by kernel_rfl), Up.refl H, Gr.nil⟩ ?_
  rintro m st ⟨k, ov, H1, hm, hk, hkl, hkn, hH, uH1, hgr⟩ Rr1 hRr1
  refine cf_kn [(0, .slice (some ⟨A, off, none⟩) L.length cap), (1, .bool t), (5, ov), (6, .int .i64 ((k : Nat) : Int))] hkn hH fun tm => ?_
  have nH1 := uH1.n
  have hcl : (codeB ((L.take k).map (madeI t))).length = 8 * k := by rw [codeB_len]; simp; omega
  by_cases hlt : k < L.length ∧ k < 30
  · skip
    obtain ⟨⟨op, rd, ra, rb, im⟩, hi⟩ : ∃ i, L[k]? = some i := ⟨_, List.getElem?_eq_getElem hlt.1⟩
    obtain ⟨h1, h2, h3, h4, hi0, hi1⟩ := hL _ (List.mem_of_getElem? hi)
    have hc := hA k hlt.1
    have hik : L[k] = (op, rd, ra, rb, im) := by have := List.getElem?_eq_getElem hlt.1; rw [hi] at this; exact (Option.some.inj this).symm
    have c0 : cells[off + k * 5]? = some (.int .i64 op) := by have := hc 0 (by omega); rw [hik] at this; exact this
    have c1 : cells[off + k * 5 + 1]? = some (.int .i64 rd) := by have := hc 1 (by omega); rw [hik] at this; exact this
    have c2 : cells[off + k * 5 + 2]? = some (.int .i64 ra) := by have := hc 2 (by omega); rw [hik] at this; exact this
    have c3 : cells[off + k * 5 + 3]? = some (.int .i64 rb) := by have := hc 3 (by omega); rw [hik] at this; exact this
    have c4 : cells[off + k * 5 + 4]? = some (.int .u32 im) := by have := hc 4 (by omega); rw [hik] at this; exact this
    simp only [i64B, Bool.and_eq_true, decide_eq_true_eq] at h1 h2 h3 h4
    have htk : (L.take (k + 1)).map (madeI t) = (L.take k).map (madeI t) ++ [madeI t (op, rd, ra, rb, im)] := by rw [List.take_add_one, hi]; simp
    obtain ⟨o, ho, o0, o1⟩ : ∃ o : Int, op % 20 = o ∧ 0 ≤ o ∧ o < 20 := ⟨op % 20, rfl, by omega, by omega⟩
    have hbit := bit_of o0 o1
    refine cf_go 7 ?_
    refine cf_see 12 (.bool true) (see_bool (by kernel_rfl) ((decide_eq_true (by omega)) : ((decide (((k : Nat) : Int) < ((L.length : Nat) : Int)))) = true)) ?_
    refine cf_go 3 ?_
    refine cf_see 15 (.bool true) (see_bool (by kernel_rfl) ((decide_eq_true (by omega)) : ((decide (((k : Nat) : Int) < 30))) = true)) ?_
    refine cf_go 12 ?_
    refine cf_val 21 (.pointer (some ⟨A, off + k * 5, none⟩)) H1 (by kernel_rfl) ((by kernel_rfl : _ = val (bif (k : Nat).blt L.length then some (.pointer (some ⟨A, off + k * 5, none⟩)) else none) H1).trans (by rw [show (k : Nat).blt L.length = true from (by rw [blt_dec]; simp only [decide_eq_true_eq]; omega)]; rfl)) ?_
    refine cf_go 1 ?_
    have gH1A : H1.get (A) = some ⟨cells, e, ro⟩ := by rw [uH1.get _ (by omega)]; exact gA
    refine cf_val 23 (.int .i64 op) H1 (by kernel_rfl) ((by kernel_rfl : _ = val (aload T8 3 (.pointer (some ⟨A, off + k * 5, none⟩)) H1) H1).trans (val_of ((aload_at gH1A).trans (aloadC_cellB (n := 1) (by kernel_rfl) (by kernel_rfl) c0)))) ?_
    refine cf_ask 24 (.int .i64 (0 + op % (19 - 0 + 1))) 12 #[.int .i64 op, .int .i64 0, .int .i64 19] (by kernel_rfl) (by kernel_rfl) (orc12 op 0 19 (by simp only [inB, Bool.and_eq_true, decide_eq_true_eq]; omega)) ?_
    refine cf_see 24 (.int .i64 o) (see_int (x := (0 + op % (19 - 0 + 1))) (by kernel_rfl) (by rw [show ((19 : Int) - 0 + 1) = 20 from rfl]; omega)) ?_
    refine cf_go 1 ?_
    obtain ⟨H1_, hH1_⟩ : ∃ x : Heap, x = H1.push ⟨[Value.int .i64 0, .int .i64 0, .int .i64 0, .int .i64 0, .int .u32 0], 48, false⟩ := ⟨_, rfl⟩
    have nH1_ : H1_.n = H1.n + 1 := by rw [hH1_]; rfl
    refine cf_val 7 (.pointer (some ⟨H1.n, 0, none⟩)) H1_ (by kernel_rfl) ((by kernel_rfl : _ = some (Res.val (.pointer (some ⟨H1.n, 0, none⟩)), H1.push ⟨[Value.int .i64 0, .int .i64 0, .int .i64 0, .int .i64 0, .int .u32 0], 48, false⟩)).trans (by rw [← hH1_])) ?_
    have gH1_H1_n : H1_.get (H1.n) = some ⟨[Value.int .i64 0, .int .i64 0, .int .i64 0, .int .i64 0, .int .u32 0], 48, false⟩ := by rw [hH1_]; exact (Heap.get_push _ _ _).trans (if_pos rfl)
    obtain ⟨H2_, hH2_⟩ : ∃ x : Heap, x = H1_.put (H1.n) ⟨[Value.int .i64 o, .int .i64 0, .int .i64 0, .int .i64 0, .int .u32 0], 48, false⟩ := ⟨_, rfl⟩
    have nH2_ : H2_.n = H1_.n := by rw [hH2_]; rfl
    refine cf_skip H2_ (by kernel_rfl) ((by kernel_rfl : _ = skp (astore T8 48 (.pointer (some ⟨H1.n, 0, none⟩)) (.agg #[.int .i64 o, .int .i64 0, .int .i64 0, .int .i64 0, .int .u32 0]) H1_)).trans (by rw [astore_to gH1_H1_n (by kernel_rfl), ← hH2_]; rfl)) ?_
    refine cf_go 5 ?_
    have gH2_H1_n : H2_.get (H1.n) = some ⟨[Value.int .i64 o, .int .i64 0, .int .i64 0, .int .i64 0, .int .u32 0], 48, false⟩ := by rw [hH2_]; exact (Heap.get_put _ _ _ _).trans (if_pos rfl)
    refine cf_val 27 (.int .i64 o) H2_ (by kernel_rfl) ((by kernel_rfl : _ = val (aload T8 3 (.pointer (some ⟨H1.n, 0, none⟩)) H2_) H2_).trans (val_of ((aload_at gH2_H1_n).trans (by kernel_rfl)))) ?_
    refine cf_ask 28 (.int .i64 (fieldsV o)) 28 #[.int .i64 o] (by kernel_rfl) (by kernel_rfl) rfl ?_
    refine cf_go 9 ?_
    refine cf_see 31 (.bool (rdB o)) (see_bool (x := (((IntKind.i64.wrap (((BitVec.ofInt 64 (fieldsV o) &&& BitVec.ofInt 64 1).toNat : Nat) : Int)) : Int) != 0)) (by kernel_rfl) (hbit.1)) ?_
    refine cf_go 2 ?_
    refine cf_mid 78 (cr (cl (cr (cr (cl (cl (cr (cl (cl (cr (cl (cr (cr f9b))))))))))))) [.next (cr (cr (cr (cl (cl (cr (cl (cl (cr (cl (cr (cr f9b)))))))))))), .blk 1, .next (cr (cr (cl (cl (cr (cl (cr (cr f9b)))))))), .inv Rr1, .blk 0, .next (cr (cr (cr f9b)))] (by kernel_rfl) (by kernel_rfl) (by kernel_rfl) (fun s2 => ∃ Hx : Heap, Kn s2.tm [(0, .slice (some ⟨A, off, none⟩) L.length cap), (1, .bool t), (5, ov), (6, .int .i64 ((k : Nat) : Int)), (7, .pointer (some ⟨H1.n, 0, none⟩)), (8, .int .i64 (fieldsV o))] ∧ s2.H = Hx ∧ Hx.n = H2_.n ∧ Hx.get (H1.n) = some ⟨[Value.int .i64 o, .int .i64 (pick0 (rdB o) (rd % 16)), .int .i64 0, .int .i64 0, .int .u32 0], 48, false⟩ ∧ ∀ b, b ≠ H1.n → Hx.get b = H2_.get b) ?_ ?_
    · intro Rj2 hRj2
      rcases Bool.eq_false_or_eq_true ((rdB o)) with hc1 | hc1
      · skip
        refine cf_see 31 (.bool true) (see_bool (by kernel_rfl) hc1) ?_
        refine cf_go 4 ?_
        refine cf_val 34 (.pointer (some ⟨A, off + k * 5, none⟩)) H2_ (by kernel_rfl) ((by kernel_rfl : _ = val (bif (k : Nat).blt L.length then some (.pointer (some ⟨A, off + k * 5, none⟩)) else none) H2_).trans (by rw [show (k : Nat).blt L.length = true from (by rw [blt_dec]; simp only [decide_eq_true_eq]; omega)]; rfl)) ?_
        refine cf_go 1 ?_
        have gH2_A : H2_.get (A) = some ⟨cells, e, ro⟩ := by rw [hH2_, Heap.get_put, if_neg (by omega)]; rw [hH1_, Heap.get_push, if_neg (by omega)]; exact gH1A
        refine cf_val 36 (.int .i64 rd) H2_ (by kernel_rfl) ((by kernel_rfl : _ = val (aload T8 3 (.pointer (some ⟨A, off + k * 5 + 1, none⟩)) H2_) H2_).trans (val_of ((aload_at gH2_A).trans (aloadC_cellB (n := 1) (by kernel_rfl) (by kernel_rfl) c1)))) ?_
        refine cf_ask 37 (.int .i64 (0 + rd % (15 - 0 + 1))) 12 #[.int .i64 rd, .int .i64 0, .int .i64 15] (by kernel_rfl) (by kernel_rfl) (orc12 rd 0 15 (by simp only [inB, Bool.and_eq_true, decide_eq_true_eq]; omega)) ?_
        refine cf_see 37 (.int .i64 (rd % 16)) (see_int (x := (0 + rd % (15 - 0 + 1))) (by kernel_rfl) (by rw [show ((15 : Int) - 0 + 1) = 16 from rfl]; omega)) ?_
        refine cf_go 1 ?_
        obtain ⟨H4_, hH4_⟩ : ∃ x : Heap, x = H2_.put (H1.n) ⟨[Value.int .i64 o, .int .i64 (rd % 16), .int .i64 0, .int .i64 0, .int .u32 0], 48, false⟩ := ⟨_, rfl⟩
        have nH4_ : H4_.n = H2_.n := by rw [hH4_]; rfl
        refine cf_skip H4_ (by kernel_rfl) ((by kernel_rfl : _ = skp (astore T8 3 (.pointer (some ⟨H1.n, 1, none⟩)) (.int .i64 (rd % 16)) H2_)).trans (by rw [astore_to gH2_H1_n (by kernel_rfl), ← hH4_]; rfl)) ?_
        refine cf_go 1 ?_
        have gH4_H1_n : H4_.get (H1.n) = some ⟨[Value.int .i64 o, .int .i64 (rd % 16), .int .i64 0, .int .i64 0, .int .u32 0], 48, false⟩ := by rw [hH4_]; exact (Heap.get_put _ _ _ _).trans (if_pos rfl)
        refine cf_inv Rj2 (by kernel_rfl) (hRj2 _ ⟨H4_, ⟨(by kernel_rfl), (by kernel_rfl), (by kernel_rfl), (by kernel_rfl), (by kernel_rfl), (by kernel_rfl), True.intro⟩, (by kernel_rfl), by omega, (by simp only [pick0, hc1, cond_true, cond_false]; exact gH4_H1_n), fun b hb => by rw [hH4_, Heap.get_put, if_neg (by omega)]⟩)
      · skip
        refine cf_see 31 (.bool false) (see_bool (by kernel_rfl) hc1) ?_
        refine cf_go 2 ?_
        refine cf_inv Rj2 (by kernel_rfl) (hRj2 _ ⟨H2_, ⟨(by kernel_rfl), (by kernel_rfl), (by kernel_rfl), (by kernel_rfl), (by kernel_rfl), (by kernel_rfl), True.intro⟩, (by kernel_rfl), by omega, (by simp only [pick0, hc1, cond_true, cond_false]; exact gH2_H1_n), fun b hb => rfl⟩)
    · rintro s2 ⟨H3_, hkn2, hH2, nH3_, gH3_X, frH3_⟩
      refine cf_kn [(0, .slice (some ⟨A, off, none⟩) L.length cap), (1, .bool t), (5, ov), (6, .int .i64 ((k : Nat) : Int)), (7, .pointer (some ⟨H1.n, 0, none⟩)), (8, .int .i64 (fieldsV o))] hkn2 hH2 fun tm2 => ?_
      refine cf_go 7 ?_
      refine cf_see 41 (.bool (raB o)) (see_bool (x := (((IntKind.i64.wrap (((BitVec.ofInt 64 (fieldsV o) &&& BitVec.ofInt 64 2).toNat : Nat) : Int)) : Int) != 0)) (by kernel_rfl) (hbit.2.1)) ?_
      refine cf_go 2 ?_
      refine cf_mid 78 (cr (cl (cr (cr (cr (cl (cl (cr (cl (cl (cr (cl (cr (cr f9b)))))))))))))) [.next (cr (cr (cr (cr (cl (cl (cr (cl (cl (cr (cl (cr (cr f9b))))))))))))), .blk 1, .next (cr (cr (cl (cl (cr (cl (cr (cr f9b)))))))), .inv Rr1, .blk 0, .next (cr (cr (cr f9b)))] (by kernel_rfl) (by kernel_rfl) (by kernel_rfl) (fun s2 => ∃ Hx : Heap, Kn s2.tm [(0, .slice (some ⟨A, off, none⟩) L.length cap), (1, .bool t), (5, ov), (6, .int .i64 ((k : Nat) : Int)), (7, .pointer (some ⟨H1.n, 0, none⟩)), (8, .int .i64 (fieldsV o))] ∧ s2.H = Hx ∧ Hx.n = H3_.n ∧ Hx.get (H1.n) = some ⟨[Value.int .i64 o, .int .i64 (pick0 (rdB o) (rd % 16)), .int .i64 (pick0 (raB o) (ra % 16)), .int .i64 0, .int .u32 0], 48, false⟩ ∧ ∀ b, b ≠ H1.n → Hx.get b = H3_.get b) ?_ ?_
      · intro Rj3 hRj3
        rcases Bool.eq_false_or_eq_true ((raB o)) with hc2 | hc2
        · skip
          refine cf_see 41 (.bool true) (see_bool (by kernel_rfl) hc2) ?_
          refine cf_go 4 ?_
          refine cf_val 44 (.pointer (some ⟨A, off + k * 5, none⟩)) H3_ (by kernel_rfl) ((by kernel_rfl : _ = val (bif (k : Nat).blt L.length then some (.pointer (some ⟨A, off + k * 5, none⟩)) else none) H3_).trans (by rw [show (k : Nat).blt L.length = true from (by rw [blt_dec]; simp only [decide_eq_true_eq]; omega)]; rfl)) ?_
          refine cf_go 1 ?_
          have gH3_A : H3_.get (A) = some ⟨cells, e, ro⟩ := by rw [frH3_ _ (by omega)]; rw [hH2_, Heap.get_put, if_neg (by omega)]; rw [hH1_, Heap.get_push, if_neg (by omega)]; exact gH1A
          refine cf_val 46 (.int .i64 ra) H3_ (by kernel_rfl) ((by kernel_rfl : _ = val (aload T8 3 (.pointer (some ⟨A, off + k * 5 + 2, none⟩)) H3_) H3_).trans (val_of ((aload_at gH3_A).trans (aloadC_cellB (n := 1) (by kernel_rfl) (by kernel_rfl) c2)))) ?_
          refine cf_ask 47 (.int .i64 (0 + ra % (15 - 0 + 1))) 12 #[.int .i64 ra, .int .i64 0, .int .i64 15] (by kernel_rfl) (by kernel_rfl) (orc12 ra 0 15 (by simp only [inB, Bool.and_eq_true, decide_eq_true_eq]; omega)) ?_
          refine cf_see 47 (.int .i64 (ra % 16)) (see_int (x := (0 + ra % (15 - 0 + 1))) (by kernel_rfl) (by rw [show ((15 : Int) - 0 + 1) = 16 from rfl]; omega)) ?_
          refine cf_go 1 ?_
          obtain ⟨H6_, hH6_⟩ : ∃ x : Heap, x = H3_.put (H1.n) ⟨[Value.int .i64 o, .int .i64 (pick0 (rdB o) (rd % 16)), .int .i64 (ra % 16), .int .i64 0, .int .u32 0], 48, false⟩ := ⟨_, rfl⟩
          have nH6_ : H6_.n = H3_.n := by rw [hH6_]; rfl
          refine cf_skip H6_ (by kernel_rfl) ((by kernel_rfl : _ = skp (astore T8 3 (.pointer (some ⟨H1.n, 2, none⟩)) (.int .i64 (ra % 16)) H3_)).trans (by rw [astore_to gH3_X (by kernel_rfl), ← hH6_]; rfl)) ?_
          refine cf_go 1 ?_
          have gH6_H1_n : H6_.get (H1.n) = some ⟨[Value.int .i64 o, .int .i64 (pick0 (rdB o) (rd % 16)), .int .i64 (ra % 16), .int .i64 0, .int .u32 0], 48, false⟩ := by rw [hH6_]; exact (Heap.get_put _ _ _ _).trans (if_pos rfl)
          refine cf_inv Rj3 (by kernel_rfl) (hRj3 _ ⟨H6_, ⟨(by kernel_rfl), (by kernel_rfl), (by kernel_rfl), (by kernel_rfl), (by kernel_rfl), (by kernel_rfl), True.intro⟩, (by kernel_rfl), by omega, (by simp only [pick0, hc2, cond_true, cond_false]; exact gH6_H1_n), fun b hb => by rw [hH6_, Heap.get_put, if_neg (by omega)]⟩)
        · skip
          refine cf_see 41 (.bool false) (see_bool (by kernel_rfl) hc2) ?_
          refine cf_go 2 ?_
          refine cf_inv Rj3 (by kernel_rfl) (hRj3 _ ⟨H3_, ⟨(by kernel_rfl), (by kernel_rfl), (by kernel_rfl), (by kernel_rfl), (by kernel_rfl), (by kernel_rfl), True.intro⟩, (by kernel_rfl), by omega, (by simp only [pick0, hc2, cond_true, cond_false]; exact gH3_X), fun b hb => rfl⟩)
      · rintro s2 ⟨H5_, hkn2, hH2, nH5_, gH5_X, frH5_⟩
        refine cf_kn [(0, .slice (some ⟨A, off, none⟩) L.length cap), (1, .bool t), (5, ov), (6, .int .i64 ((k : Nat) : Int)), (7, .pointer (some ⟨H1.n, 0, none⟩)), (8, .int .i64 (fieldsV o))] hkn2 hH2 fun tm2 => ?_
        refine cf_go 7 ?_
        refine cf_see 51 (.bool (rbB o)) (see_bool (x := (((IntKind.i64.wrap (((BitVec.ofInt 64 (fieldsV o) &&& BitVec.ofInt 64 4).toNat : Nat) : Int)) : Int) != 0)) (by kernel_rfl) (hbit.2.2.1)) ?_
        refine cf_go 2 ?_
        refine cf_mid 78 (cr (cl (cr (cr (cr (cr (cl (cl (cr (cl (cl (cr (cl (cr (cr f9b))))))))))))))) [.next (cr (cr (cr (cr (cr (cl (cl (cr (cl (cl (cr (cl (cr (cr f9b)))))))))))))), .blk 1, .next (cr (cr (cl (cl (cr (cl (cr (cr f9b)))))))), .inv Rr1, .blk 0, .next (cr (cr (cr f9b)))] (by kernel_rfl) (by kernel_rfl) (by kernel_rfl) (fun s2 => ∃ Hx : Heap, Kn s2.tm [(0, .slice (some ⟨A, off, none⟩) L.length cap), (1, .bool t), (5, ov), (6, .int .i64 ((k : Nat) : Int)), (7, .pointer (some ⟨H1.n, 0, none⟩)), (8, .int .i64 (fieldsV o))] ∧ s2.H = Hx ∧ Hx.n = H5_.n ∧ Hx.get (H1.n) = some ⟨[Value.int .i64 o, .int .i64 (pick0 (rdB o) (rd % 16)), .int .i64 (pick0 (raB o) (ra % 16)), .int .i64 (pick0 (rbB o) (rb % 16)), .int .u32 0], 48, false⟩ ∧ ∀ b, b ≠ H1.n → Hx.get b = H5_.get b) ?_ ?_
        · intro Rj4 hRj4
          rcases Bool.eq_false_or_eq_true ((rbB o)) with hc3 | hc3
          · skip
            refine cf_see 51 (.bool true) (see_bool (by kernel_rfl) hc3) ?_
            refine cf_go 4 ?_
            refine cf_val 54 (.pointer (some ⟨A, off + k * 5, none⟩)) H5_ (by kernel_rfl) ((by kernel_rfl : _ = val (bif (k : Nat).blt L.length then some (.pointer (some ⟨A, off + k * 5, none⟩)) else none) H5_).trans (by rw [show (k : Nat).blt L.length = true from (by rw [blt_dec]; simp only [decide_eq_true_eq]; omega)]; rfl)) ?_
            refine cf_go 1 ?_
            have gH5_A : H5_.get (A) = some ⟨cells, e, ro⟩ := by rw [frH5_ _ (by omega)]; rw [frH3_ _ (by omega)]; rw [hH2_, Heap.get_put, if_neg (by omega)]; rw [hH1_, Heap.get_push, if_neg (by omega)]; exact gH1A
            refine cf_val 56 (.int .i64 rb) H5_ (by kernel_rfl) ((by kernel_rfl : _ = val (aload T8 3 (.pointer (some ⟨A, off + k * 5 + 3, none⟩)) H5_) H5_).trans (val_of ((aload_at gH5_A).trans (aloadC_cellB (n := 1) (by kernel_rfl) (by kernel_rfl) c3)))) ?_
            refine cf_ask 57 (.int .i64 (0 + rb % (15 - 0 + 1))) 12 #[.int .i64 rb, .int .i64 0, .int .i64 15] (by kernel_rfl) (by kernel_rfl) (orc12 rb 0 15 (by simp only [inB, Bool.and_eq_true, decide_eq_true_eq]; omega)) ?_
            refine cf_see 57 (.int .i64 (rb % 16)) (see_int (x := (0 + rb % (15 - 0 + 1))) (by kernel_rfl) (by rw [show ((15 : Int) - 0 + 1) = 16 from rfl]; omega)) ?_
            refine cf_go 1 ?_
            obtain ⟨H8_, hH8_⟩ : ∃ x : Heap, x = H5_.put (H1.n) ⟨[Value.int .i64 o, .int .i64 (pick0 (rdB o) (rd % 16)), .int .i64 (pick0 (raB o) (ra % 16)), .int .i64 (rb % 16), .int .u32 0], 48, false⟩ := ⟨_, rfl⟩
            have nH8_ : H8_.n = H5_.n := by rw [hH8_]; rfl
            refine cf_skip H8_ (by kernel_rfl) ((by kernel_rfl : _ = skp (astore T8 3 (.pointer (some ⟨H1.n, 3, none⟩)) (.int .i64 (rb % 16)) H5_)).trans (by rw [astore_to gH5_X (by kernel_rfl), ← hH8_]; rfl)) ?_
            refine cf_go 1 ?_
            have gH8_H1_n : H8_.get (H1.n) = some ⟨[Value.int .i64 o, .int .i64 (pick0 (rdB o) (rd % 16)), .int .i64 (pick0 (raB o) (ra % 16)), .int .i64 (rb % 16), .int .u32 0], 48, false⟩ := by rw [hH8_]; exact (Heap.get_put _ _ _ _).trans (if_pos rfl)
            refine cf_inv Rj4 (by kernel_rfl) (hRj4 _ ⟨H8_, ⟨(by kernel_rfl), (by kernel_rfl), (by kernel_rfl), (by kernel_rfl), (by kernel_rfl), (by kernel_rfl), True.intro⟩, (by kernel_rfl), by omega, (by simp only [pick0, hc3, cond_true, cond_false]; exact gH8_H1_n), fun b hb => by rw [hH8_, Heap.get_put, if_neg (by omega)]⟩)
          · skip
            refine cf_see 51 (.bool false) (see_bool (by kernel_rfl) hc3) ?_
            refine cf_go 2 ?_
            refine cf_inv Rj4 (by kernel_rfl) (hRj4 _ ⟨H5_, ⟨(by kernel_rfl), (by kernel_rfl), (by kernel_rfl), (by kernel_rfl), (by kernel_rfl), (by kernel_rfl), True.intro⟩, (by kernel_rfl), by omega, (by simp only [pick0, hc3, cond_true, cond_false]; exact gH5_X), fun b hb => rfl⟩)
        · rintro s2 ⟨H7_, hkn2, hH2, nH7_, gH7_X, frH7_⟩
          refine cf_kn [(0, .slice (some ⟨A, off, none⟩) L.length cap), (1, .bool t), (5, ov), (6, .int .i64 ((k : Nat) : Int)), (7, .pointer (some ⟨H1.n, 0, none⟩)), (8, .int .i64 (fieldsV o))] hkn2 hH2 fun tm2 => ?_
          refine cf_go 7 ?_
          refine cf_see 61 (.bool (imB o)) (see_bool (x := (((IntKind.i64.wrap (((BitVec.ofInt 64 (fieldsV o) &&& BitVec.ofInt 64 8).toNat : Nat) : Int)) : Int) != 0)) (by kernel_rfl) (hbit.2.2.2)) ?_
          refine cf_go 2 ?_
          refine cf_mid 78 (cr (cl (cr (cr (cr (cr (cr (cl (cl (cr (cl (cl (cr (cl (cr (cr f9b)))))))))))))))) [.next (cr (cr (cr (cr (cr (cr (cl (cl (cr (cl (cl (cr (cl (cr (cr f9b))))))))))))))), .blk 1, .next (cr (cr (cl (cl (cr (cl (cr (cr f9b)))))))), .inv Rr1, .blk 0, .next (cr (cr (cr f9b)))] (by kernel_rfl) (by kernel_rfl) (by kernel_rfl) (fun s2 => ∃ Hx : Heap, Kn s2.tm [(0, .slice (some ⟨A, off, none⟩) L.length cap), (1, .bool t), (5, ov), (6, .int .i64 ((k : Nat) : Int)), (7, .pointer (some ⟨H1.n, 0, none⟩)), (8, .int .i64 (fieldsV o))] ∧ s2.H = Hx ∧ Hx.n = H7_.n ∧ Hx.get (H1.n) = some ⟨[Value.int .i64 o, .int .i64 (pick0 (rdB o) (rd % 16)), .int .i64 (pick0 (raB o) (ra % 16)), .int .i64 (pick0 (rbB o) (rb % 16)), .int .u32 (pick0 (imB o) (bif t then im % 40 else im))], 48, false⟩ ∧ ∀ b, b ≠ H1.n → Hx.get b = H7_.get b) ?_ ?_
          · intro Rj5 hRj5
            rcases Bool.eq_false_or_eq_true ((imB o)) with hc4 | hc4
            · skip
              refine cf_see 61 (.bool true) (see_bool (by kernel_rfl) hc4) ?_
              refine cf_go 5 ?_
              refine cf_val 64 (.pointer (some ⟨A, off + k * 5, none⟩)) H7_ (by kernel_rfl) ((by kernel_rfl : _ = val (bif (k : Nat).blt L.length then some (.pointer (some ⟨A, off + k * 5, none⟩)) else none) H7_).trans (by rw [show (k : Nat).blt L.length = true from (by rw [blt_dec]; simp only [decide_eq_true_eq]; omega)]; rfl)) ?_
              refine cf_go 1 ?_
              have gH7_A : H7_.get (A) = some ⟨cells, e, ro⟩ := by rw [frH7_ _ (by omega)]; rw [frH5_ _ (by omega)]; rw [frH3_ _ (by omega)]; rw [hH2_, Heap.get_put, if_neg (by omega)]; rw [hH1_, Heap.get_push, if_neg (by omega)]; exact gH1A
              refine cf_val 66 (.int .u32 im) H7_ (by kernel_rfl) ((by kernel_rfl : _ = val (aload T8 30 (.pointer (some ⟨A, off + k * 5 + 4, none⟩)) H7_) H7_).trans (val_of ((aload_at gH7_A).trans (aloadC_cellB (n := 1) (by kernel_rfl) (by kernel_rfl) c4)))) ?_
              refine cf_go 1 ?_
              obtain ⟨H10_, hH10_⟩ : ∃ x : Heap, x = H7_.put (H1.n) ⟨[Value.int .i64 o, .int .i64 (pick0 (rdB o) (rd % 16)), .int .i64 (pick0 (raB o) (ra % 16)), .int .i64 (pick0 (rbB o) (rb % 16)), .int .u32 im], 48, false⟩ := ⟨_, rfl⟩
              have nH10_ : H10_.n = H7_.n := by rw [hH10_]; rfl
              refine cf_skip H10_ (by kernel_rfl) ((by kernel_rfl : _ = skp (astore T8 30 (.pointer (some ⟨H1.n, 4, none⟩)) (.int .u32 im) H7_)).trans (by rw [astore_to gH7_X (by kernel_rfl), ← hH10_]; rfl)) ?_
              refine cf_go 7 ?_
              rcases Bool.eq_false_or_eq_true (t) with hc5 | hc5
              · skip
                refine cf_see 68 (.bool true) (see_bool (by kernel_rfl) hc5) ?_
                refine cf_go 3 ?_
                have gH10_H1_n : H10_.get (H1.n) = some ⟨[Value.int .i64 o, .int .i64 (pick0 (rdB o) (rd % 16)), .int .i64 (pick0 (raB o) (ra % 16)), .int .i64 (pick0 (rbB o) (rb % 16)), .int .u32 im], 48, false⟩ := by rw [hH10_]; exact (Heap.get_put _ _ _ _).trans (if_pos rfl)
                refine cf_val 70 (.int .u32 im) H10_ (by kernel_rfl) ((by kernel_rfl : _ = val (aload T8 30 (.pointer (some ⟨H1.n, 4, none⟩)) H10_) H10_).trans (val_of ((aload_at gH10_H1_n).trans (by kernel_rfl)))) ?_
                refine cf_go 1 ?_
                refine cf_see 71 (.int .u32 (im % 40)) (see_int (x := Int.tmod im 40) (by kernel_rfl) (Int.tmod_eq_emod_of_nonneg (by omega))) ?_
                refine cf_go 1 ?_
                obtain ⟨H11_, hH11_⟩ : ∃ x : Heap, x = H10_.put (H1.n) ⟨[Value.int .i64 o, .int .i64 (pick0 (rdB o) (rd % 16)), .int .i64 (pick0 (raB o) (ra % 16)), .int .i64 (pick0 (rbB o) (rb % 16)), .int .u32 (im % 40)], 48, false⟩ := ⟨_, rfl⟩
                have nH11_ : H11_.n = H10_.n := by rw [hH11_]; rfl
                refine cf_skip H11_ (by kernel_rfl) ((by kernel_rfl : _ = skp (astore T8 30 (.pointer (some ⟨H1.n, 4, none⟩)) (.int .u32 (im % 40)) H10_)).trans (by rw [astore_to gH10_H1_n (by kernel_rfl), ← hH11_]; rfl)) ?_
                refine cf_go 1 ?_
                have gH11_H1_n : H11_.get (H1.n) = some ⟨[Value.int .i64 o, .int .i64 (pick0 (rdB o) (rd % 16)), .int .i64 (pick0 (raB o) (ra % 16)), .int .i64 (pick0 (rbB o) (rb % 16)), .int .u32 (im % 40)], 48, false⟩ := by rw [hH11_]; exact (Heap.get_put _ _ _ _).trans (if_pos rfl)
                refine cf_inv Rj5 (by kernel_rfl) (hRj5 _ ⟨H11_, ⟨(by kernel_rfl), (by kernel_rfl), (by kernel_rfl), (by kernel_rfl), (by kernel_rfl), (by kernel_rfl), True.intro⟩, (by kernel_rfl), by omega, (by simp only [pick0, hc4, hc5, cond_true, cond_false]; exact gH11_H1_n), fun b hb => by rw [hH11_, Heap.get_put, if_neg (by omega), hH10_, Heap.get_put, if_neg (by omega)]⟩)
              · skip
                refine cf_see 68 (.bool false) (see_bool (by kernel_rfl) hc5) ?_
                refine cf_go 2 ?_
                have gH10_H1_n : H10_.get (H1.n) = some ⟨[Value.int .i64 o, .int .i64 (pick0 (rdB o) (rd % 16)), .int .i64 (pick0 (raB o) (ra % 16)), .int .i64 (pick0 (rbB o) (rb % 16)), .int .u32 im], 48, false⟩ := by rw [hH10_]; exact (Heap.get_put _ _ _ _).trans (if_pos rfl)
                refine cf_inv Rj5 (by kernel_rfl) (hRj5 _ ⟨H10_, ⟨(by kernel_rfl), (by kernel_rfl), (by kernel_rfl), (by kernel_rfl), (by kernel_rfl), (by kernel_rfl), True.intro⟩, (by kernel_rfl), by omega, (by simp only [pick0, hc4, hc5, cond_true, cond_false]; exact gH10_H1_n), fun b hb => by rw [hH10_, Heap.get_put, if_neg (by omega)]⟩)
            · skip
              refine cf_see 61 (.bool false) (see_bool (by kernel_rfl) hc4) ?_
              refine cf_go 2 ?_
              refine cf_inv Rj5 (by kernel_rfl) (hRj5 _ ⟨H7_, ⟨(by kernel_rfl), (by kernel_rfl), (by kernel_rfl), (by kernel_rfl), (by kernel_rfl), (by kernel_rfl), True.intro⟩, (by kernel_rfl), by omega, (by simp only [pick0, hc4, cond_true, cond_false]; exact gH7_X), fun b hb => rfl⟩)
          · rintro s2 ⟨H9_, hkn2, hH2, nH9_, gH9_X, frH9_⟩
            refine cf_kn [(0, .slice (some ⟨A, off, none⟩) L.length cap), (1, .bool t), (5, ov), (6, .int .i64 ((k : Nat) : Int)), (7, .pointer (some ⟨H1.n, 0, none⟩)), (8, .int .i64 (fieldsV o))] hkn2 hH2 fun tm2 => ?_
            refine cf_go 3 ?_
            refine cf_val 74 (.agg #[.int .i64 o, .int .i64 (pick0 (rdB o) (rd % 16)), .int .i64 (pick0 (raB o) (ra % 16)), .int .i64 (pick0 (rbB o) (rb % 16)), .int .u32 (pick0 (imB o) (bif t then im % 40 else im))]) H9_ (by kernel_rfl) ((by kernel_rfl : _ = val (aload T8 48 (.pointer (some ⟨H1.n, 0, none⟩)) H9_) H9_).trans (val_of ((aload_at gH9_X).trans (by kernel_rfl)))) ?_
            refine cf_call 75 20 #[.agg #[.int .i64 o, .int .i64 (pick0 (rdB o) (rd % 16)), .int .i64 (pick0 (raB o) (ra % 16)), .int .i64 (pick0 (rbB o) (rb % 16)), .int .u32 (pick0 (imB o) (bif t then im % 40 else im))]] H9_ (by kernel_rfl) (by kernel_rfl) (by kernel_rfl) renc ?_
            rintro _ H12_ ⟨B, rfl, gB, hB, hB2, uH12_⟩
            have nH12_ := uH12_.n
            obtain ⟨ovH13_, H13_, hapH13_, hgrH13_, uH13_, frH13_, nH13_, hvH13_⟩ := aappend_gr (T := T8) (st := 23) (xt := 23) (e := 5) (xd := .slice 5) (s0 := 0) (by_ := 0) (z := .int .u8 0) (by kernel_rfl) (by kernel_rfl) rfl (by kernel_rfl) (by kernel_rfl) (by kernel_rfl) (lo := H.n) (hgr.keep (lo' := H.n) (by omega) (fun b hb1 hb2 => by rw [uH12_.get _ (by omega), frH9_ _ (by omega), frH7_ _ (by omega), frH5_ _ (by omega), frH3_ _ (by omega), hH2_, Heap.get_put, if_neg (by omega), hH1_, Heap.get_push, if_neg (by omega)])) (x := .slice (some ⟨B, 0, none⟩) 8 8) (asrc_blk (l := (enc8 o (pick0 (rdB o) (rd % 16)) (pick0 (raB o) (ra % 16)) (pick0 (rbB o) (rb % 16)) (pick0 (imB o) (bif t then im % 40 else im)))) gB rfl rfl) rfl rfl (by omega) (Gr.ne hgr (by omega)) (by omega) (by omega)
            refine cf_val 76 ovH13_ H13_ (by kernel_rfl) ((by kernel_rfl : _ = val2 (aappend T8 23 23 ov (.slice (some ⟨B, 0, none⟩) 8 8) H12_)).trans (by rw [hapH13_]; rfl)) ?_
            refine cf_go 7 ?_
            refine cf_see 18 (.int .i64 ((k + 1 : Nat) : Int)) (see_int (x := (IntKind.i64.wrap (((k : Nat) : Int) + 1))) (by kernel_rfl) (w64 (by omega) (by omega) (by omega))) ?_
            refine cf_go 2 ?_
            have hmd : madeI t (op, rd, ra, rb, im) = (o, pick0 (rdB o) (rd % 16), pick0 (raB o) (ra % 16), pick0 (rbB o) (rb % 16), pick0 (imB o) (bif t then im % 40 else im)) := by simp only [madeI, ho]
            have hgr9 : Gr H13_ H.n 5 1 ovH13_ (codeB ((L.take (k + 1)).map (madeI t))).length ((codeB ((L.take (k + 1)).map (madeI t))).map (Value.int .u8)) := by rw [htk, hmd]; exact Gr.code hgrH13_
            refine cf_inv Rr1 (by kernel_rfl) (hRr1 _ ⟨30 - (k + 1), by omega, k + 1, ovH13_, H13_, rfl, by omega, by omega, ⟨(by kernel_rfl), (by kernel_rfl), (by kernel_rfl), (by kernel_rfl), True.intro⟩, (by kernel_rfl), uH1.trans (show Up H.n H1 H13_ from ⟨by omega, fun b hb => by rw [uH13_.get _ (by omega), uH12_.get _ (by omega), frH9_ _ (by omega), frH7_ _ (by omega), frH5_ _ (by omega), frH3_ _ (by omega), hH2_, Heap.get_put, if_neg (by omega), hH1_, Heap.get_push, if_neg (by omega)]⟩), hgr9⟩)
  · skip
    by_cases hlt2 : k < L.length
    · skip
      refine cf_go 7 ?_
      refine cf_see 12 (.bool true) (see_bool (by kernel_rfl) ((decide_eq_true (by omega)) : ((decide (((k : Nat) : Int) < ((L.length : Nat) : Int)))) = true)) ?_
      refine cf_go 3 ?_
      refine cf_see 15 (.bool false) (see_bool (by kernel_rfl) ((decide_eq_false (by omega)) : ((decide (((k : Nat) : Int) < 30))) = false)) ?_
      refine cf_go 16 ?_
      refine cf_end (ov) H1 (by kernel_rfl) (by kernel_rfl) (by kernel_rfl) ?_
      have e : L.take k = L.take 30 := by rcases (by omega : k = 30 ∨ k = L.length) with rfl | rfl; rfl; rw [List.take_length, List.take_of_length_le (by omega)]
      exact ⟨ov, rfl, by rw [← e]; exact hgr, uH1⟩
    · skip
      refine cf_go 7 ?_
      refine cf_see 12 (.bool false) (see_bool (by kernel_rfl) ((decide_eq_false (by omega)) : ((decide (((k : Nat) : Int) < ((L.length : Nat) : Int)))) = false)) ?_
      refine cf_go 19 ?_
      refine cf_end (ov) H1 (by kernel_rfl) (by kernel_rfl) (by kernel_rfl) ?_
      have e : L.take k = L.take 30 := by rcases (by omega : k = 30 ∨ k = L.length) with rfl | rfl; rfl; rw [List.take_length, List.take_of_length_le (by omega)]
      exact ⟨ov, rfl, by rw [← e]; exact hgr, uH1⟩
def okA (i : Ins5) : Prop := i64B i.1 = true ∧ i64B i.2.1 = true ∧ i64B i.2.2.1 = true ∧ i64B i.2.2.2.1 = true ∧ 0 ≤ i.2.2.2.2 ∧ i.2.2.2.2 < 4294967296
theorem made_any {H : Heap} {v : Value} {L : List Ins5} (t : Bool) (h : InsA H v L) (hL : ∀ i ∈ L, okA i) : ACall Try.prog T8 9 #[v, .bool t] H fun r H' => ∃ ov, r = ov ∧ Gr H' H.n 5 1 ov (codeB ((L.take 30).map (madeI t))).length ((codeB ((L.take 30).map (madeI t))).map (Value.int .u8)) ∧ Up H.n H H' := by
  rcases h.at_ with ⟨cap, rfl, rfl⟩ | ⟨A, off, cap, cells, e, ro, rfl, g, hA, hc⟩
  · exact made_0 (L := []) rfl
  · exact made_1 g hA hc hL
/-- Code that is made is code. -/
theorem made_dec {L : List Ins5} (t : Bool) (hL : ∀ i ∈ L, okA i) : Dec (codeB ((L.take 30).map (madeI t))) ((L.take 30).map (madeI t)) := codeB_dec fun i hi => by
  obtain ⟨j, hj, rfl⟩ := List.mem_map.1 hi
  exact ⟨made_ok (hL j (List.mem_of_mem_take hj)).2.2.2.2, made_right t j⟩
theorem made_len {L : List Ins5} (t : Bool) : ((L.take 30).map (madeI t)).length ≤ 30 := by simp; omega
end Hm
end Go.Proofs.Ytjhijpfbokklcaa
