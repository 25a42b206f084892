/- Chapter 4: bytes read. -/
import Derived.Test.YtjhijpfbokklcaaPc
import Derived.Laws.BitsLemmas
namespace Go.Proofs.Ytjhijpfbokklcaa
open Go Go.Ev Go.RowKit
set_option linter.unusedVariables false
set_option linter.unusedSimpArgs false
set_option maxRecDepth 100000
namespace Hm
theorem ares_cell1 {T : Tab} {tm : Tr Value} {H : Heap} {rs : Array ResultVar} (t : Nat) (ty : TypeId) (a : Nat) (p : Value) (H0 : Heap) {v x : Value} (hrs : rs.toList = [.cell t ty, .tmp a]) (hp : (tm.get t).getD undef = p) (ha : (tm.get a).getD undef = x) (hH : H = H0) (hl : aload T ty p H0 = some v) : aresults T tm H rs = some (.tuple #[v, x]) := by
  subst hH
  unfold aresults
  rw [hrs]
  simp only [results1, hp, ha, hl]
/-- A slice of bytes that is read. -/
structure Byts (H : Heap) (v : Value) (l : List Int) : Prop where
  at_ : (∃ cap, v = .slice none 0 cap ∧ l = []) ∨ ∃ A off cap cells e ro, v = .slice (some ⟨A, off, none⟩) l.length cap ∧ H.get A = some ⟨cells, e, ro⟩ ∧ A < H.n ∧ ∀ k (h : k < l.length), cells[off + k * 1]? = some (.int .u8 l[k]) ∧ 0 ≤ l[k] ∧ l[k] < 256
def num4 (a b c d : Int) : Int := a + b * 256 + c * 65536 + d * 16777216
theorem or_add (x y : Int) (i : Nat) (hi : i ≤ 32) (hx : x % 2 ^ i = 0) (h0 : 0 ≤ x) (h1 : x < 4294967296) (h2 : 0 ≤ y) (h3 : y < 2 ^ i) (h4 : y < 4294967296) : IntKind.u32.wrap (((BitVec.ofInt 32 x ||| BitVec.ofInt 32 y).toNat : Nat) : Int) = x + y :=
  bits_join .u32 32 (by decide) (fun n h0 h1 => by rw [IntKind.wrap_u32]; omega) i x y h0 hx (by omega) h2 h3 (by omega)
theorem or_add2 (x y : Int) (i : Nat) (hi : i ≤ 32) (hy : y % 2 ^ i = 0) (h0 : 0 ≤ y) (h1 : y < 4294967296) (h2 : 0 ≤ x) (h3 : x < 2 ^ i) (h4 : x < 4294967296) : IntKind.u32.wrap (((BitVec.ofInt 32 x ||| BitVec.ofInt 32 y).toNat : Nat) : Int) = x + y := by
  rw [BitVec.or_comm, or_add y x i hi hy h0 h1 h2 h3 h4, Int.add_comm]
abbrev Ins5 := Int × Int × Int × Int × Int
def agg5 (i : Ins5) : Value := .agg #[.int .i64 i.1, .int .i64 i.2.1, .int .i64 i.2.2.1, .int .i64 i.2.2.2.1, .int .u32 i.2.2.2.2]
/-- What eight bytes tell, and what is wrong. -/
def readL : List Int → Ins5 × Int
  | [x, r, a, b, c, d, e, f] => bif rightV x r a b (num4 c d e f) then ((x, r, a, b, num4 c d e f), 0) else ((0, 0, 0, 0, 0), 12)
  | _ => ((0, 0, 0, 0, 0), 10)
def decR (d : Ins5 × Int) : Value := .tuple #[agg5 d.1, .int .i64 d.2]
def rdecR (d : Ins5 × Int) : Value := .tuple #[agg5 d.1, .bool (d.2 == 0)]
theorem readL_ne {l : List Int} (h : l.length ≠ 8) : readL l = ((0, 0, 0, 0, 0), 10) := by
  unfold readL
  split
  · simp at h
  · rfl
theorem readL_in (l : List Int) : (l.length ≠ 8 ∧ readL l = ((0, 0, 0, 0, 0), 10)) ∨ (l.length = 8 ∧ readL l = ((0, 0, 0, 0, 0), 12)) ∨ (l.length = 8 ∧ (readL l).2 = 0) := by
  by_cases h : l.length ≠ 8
  · exact .inl ⟨h, readL_ne h⟩
  · have h8 : l.length = 8 := by omega
    match l, h8 with
    | [x, r, a, b, c, d, e, f], _ =>
      simp only [readL]
      cases rightV x r a b (num4 c d e f)
      · exact .inr (.inl ⟨rfl, rfl⟩)
      · exact .inr (.inr ⟨rfl, rfl⟩)
noncomputable def f34b : Code := Try.f34.body.getD .skip
theorem f34_body : Try.f34.body = some f34b := by kernel_rfl
theorem f34_fn : T8.fn 34 = some Try.f34 := by kernel_rfl
theorem dec_nil {H : Heap} {pt : Option Addr} {cap : Nat} : ACall Try.prog T8 34 #[.slice pt 0 cap] H fun r H' => r = decR ((0, 0, 0, 0, 0), 10) ∧ Up H.n H H' := by
  refine acall_cf 53 (initTm 0 #[(.slice pt 0 cap)]) rfl f34_fn f34_body rfl rfl ?_
  refine cf_go 2 ?_
  obtain ⟨H1_, hH1_⟩ : ∃ x : Heap, x = H.push ⟨[Value.int .i64 0, .int .i64 0, .int .i64 0, .int .i64 0, .int .u32 0], 48, false⟩ := ⟨_, rfl⟩
  have nH1_ : H1_.n = H.n + 1 := by rw [hH1_]; rfl
  refine cf_val 2 (.pointer (some ⟨H.n, 0, none⟩)) H1_ (by kernel_rfl) ((by kernel_rfl : _ = some (Res.val (.pointer (some ⟨H.n, 0, none⟩)), H.push ⟨[Value.int .i64 0, .int .i64 0, .int .i64 0, .int .i64 0, .int .u32 0], 48, false⟩)).trans (by rw [← hH1_])) ?_
  refine cf_go 15 ?_
  have gH1_H_n : H1_.get (H.n) = some ⟨[Value.int .i64 0, .int .i64 0, .int .i64 0, .int .i64 0, .int .u32 0], 48, false⟩ := by rw [hH1_]; exact (Heap.get_push _ _ _).trans (if_pos rfl)
  obtain ⟨H2_, hH2_⟩ : ∃ x : Heap, x = H1_.put (H.n) ⟨[Value.int .i64 0, .int .i64 0, .int .i64 0, .int .i64 0, .int .u32 0], 48, false⟩ := ⟨_, rfl⟩
  have nH2_ : H2_.n = H1_.n := by rw [hH2_]; rfl
  refine cf_skip H2_ (by kernel_rfl) ((by kernel_rfl : _ = skp (astore T8 48 (.pointer (some ⟨H.n, 0, none⟩)) (.agg #[.int .i64 0, .int .i64 0, .int .i64 0, .int .i64 0, .int .u32 0]) H1_)).trans (by rw [astore_to gH1_H_n (by kernel_rfl), ← hH2_]; rfl)) ?_
  refine cf_go 5 ?_
  have gH2_H_n : H2_.get (H.n) = some ⟨[Value.int .i64 0, .int .i64 0, .int .i64 0, .int .i64 0, .int .u32 0], 48, false⟩ := by rw [hH2_]; exact (Heap.get_put _ _ _ _).trans (if_pos rfl)
  refine cf_end (.tuple #[.agg #[.int .i64 0, .int .i64 0, .int .i64 0, .int .i64 0, .int .u32 0], .int .i64 10]) H2_ (by kernel_rfl) (ares_cell1 2 48 3 (.pointer (some ⟨H.n, 0, none⟩)) H2_ (by kernel_rfl) (by kernel_rfl) (by kernel_rfl) (by kernel_rfl) ((aload_at gH2_H_n).trans (by kernel_rfl))) (by kernel_rfl) ?_
  exact ⟨rfl, ⟨by omega, fun b hb => by rw [hH2_, Heap.get_put, if_neg (by omega), hH1_, Heap.get_push, if_neg (by omega)]⟩⟩
theorem dec_ne {H : Heap} {A off n cap : Nat} (hn : n ≠ 8) : ACall Try.prog T8 34 #[.slice (some ⟨A, off, none⟩) n cap] H fun r H' => r = decR ((0, 0, 0, 0, 0), 10) ∧ Up H.n H H' := by
  refine acall_cf 53 (initTm 0 #[.slice (some ⟨A, off, none⟩) n cap]) rfl f34_fn f34_body rfl rfl ?_
  refine cf_go 2 ?_
  obtain ⟨H1_, hH1_⟩ : ∃ x : Heap, x = H.push ⟨[Value.int .i64 0, .int .i64 0, .int .i64 0, .int .i64 0, .int .u32 0], 48, false⟩ := ⟨_, rfl⟩
  have nH1_ : H1_.n = H.n + 1 := by rw [hH1_]; rfl
  refine cf_val 2 (.pointer (some ⟨H.n, 0, none⟩)) H1_ (by kernel_rfl) ((by kernel_rfl : _ = some (Res.val (.pointer (some ⟨H.n, 0, none⟩)), H.push ⟨[Value.int .i64 0, .int .i64 0, .int .i64 0, .int .i64 0, .int .u32 0], 48, false⟩)).trans (by rw [← hH1_])) ?_
  refine cf_go 11 ?_
  refine cf_see 7 (.bool true) (see_bool (by kernel_rfl) ((by simp; omega) : ((((n : Nat) : Int) != 8)) = true)) ?_
  refine cf_go 4 ?_
  have gH1_H_n : H1_.get (H.n) = some ⟨[Value.int .i64 0, .int .i64 0, .int .i64 0, .int .i64 0, .int .u32 0], 48, false⟩ := by rw [hH1_]; exact (Heap.get_push _ _ _).trans (if_pos rfl)
  obtain ⟨H2_, hH2_⟩ : ∃ x : Heap, x = H1_.put (H.n) ⟨[Value.int .i64 0, .int .i64 0, .int .i64 0, .int .i64 0, .int .u32 0], 48, false⟩ := ⟨_, rfl⟩
  have nH2_ : H2_.n = H1_.n := by rw [hH2_]; rfl
  refine cf_skip H2_ (by kernel_rfl) ((by kernel_rfl : _ = skp (astore T8 48 (.pointer (some ⟨H.n, 0, none⟩)) (.agg #[.int .i64 0, .int .i64 0, .int .i64 0, .int .i64 0, .int .u32 0]) H1_)).trans (by rw [astore_to gH1_H_n (by kernel_rfl), ← hH2_]; rfl)) ?_
  refine cf_go 5 ?_
  have gH2_H_n : H2_.get (H.n) = some ⟨[Value.int .i64 0, .int .i64 0, .int .i64 0, .int .i64 0, .int .u32 0], 48, false⟩ := by rw [hH2_]; exact (Heap.get_put _ _ _ _).trans (if_pos rfl)
  refine cf_end (.tuple #[.agg #[.int .i64 0, .int .i64 0, .int .i64 0, .int .i64 0, .int .u32 0], .int .i64 10]) H2_ (by kernel_rfl) (ares_cell1 2 48 3 (.pointer (some ⟨H.n, 0, none⟩)) H2_ (by kernel_rfl) (by kernel_rfl) (by kernel_rfl) (by kernel_rfl) ((aload_at gH2_H_n).trans (by kernel_rfl))) (by kernel_rfl) ?_
  exact ⟨rfl, ⟨by omega, fun b hb => by rw [hH2_, Heap.get_put, if_neg (by omega), hH1_, Heap.get_push, if_neg (by omega)]⟩⟩
set_option maxHeartbeats 1000000 in
theorem dec_ok {H : Heap} {A off cap : Nat} {cells : List Value} {e : TypeId} {ro : Bool} {x0 : Int} (c0 : cells[off + 0 * 1]? = some (.int .u8 x0)) (l0 : 0 ≤ x0) (m0 : x0 < 256) {x1 : Int} (c1 : cells[off + 1 * 1]? = some (.int .u8 x1)) (l1 : 0 ≤ x1) (m1 : x1 < 256) {x2 : Int} (c2 : cells[off + 2 * 1]? = some (.int .u8 x2)) (l2 : 0 ≤ x2) (m2 : x2 < 256) {x3 : Int} (c3 : cells[off + 3 * 1]? = some (.int .u8 x3)) (l3 : 0 ≤ x3) (m3 : x3 < 256) {x4 : Int} (c4 : cells[off + 4 * 1]? = some (.int .u8 x4)) (l4 : 0 ≤ x4) (m4 : x4 < 256) {x5 : Int} (c5 : cells[off + 5 * 1]? = some (.int .u8 x5)) (l5 : 0 ≤ x5) (m5 : x5 < 256) {x6 : Int} (c6 : cells[off + 6 * 1]? = some (.int .u8 x6)) (l6 : 0 ≤ x6) (m6 : x6 < 256) {x7 : Int} (c7 : cells[off + 7 * 1]? = some (.int .u8 x7)) (l7 : 0 ≤ x7) (m7 : x7 < 256) (gA : H.get A = some ⟨cells, e, ro⟩) (hA : A < H.n) (hr : rightV x0 x1 x2 x3 (((x4 + (x5 * 256)) + (x6 * 65536)) + (x7 * 16777216)) = true) : ACall Try.prog T8 34 #[.slice (some ⟨A, off, none⟩) 8 cap] H fun r H' => r = decR ((x0, x1, x2, x3, (((x4 + (x5 * 256)) + (x6 * 65536)) + (x7 * 16777216))), 0) ∧ Up H.n H H' := by
  refine acall_cf 53 (initTm 0 #[.slice (some ⟨A, off, none⟩) 8 cap]) rfl f34_fn f34_body rfl rfl ?_
  refine cf_go 2 ?_
  obtain ⟨H1_, hH1_⟩ : ∃ x : Heap, x = H.push ⟨[Value.int .i64 0, .int .i64 0, .int .i64 0, .int .i64 0, .int .u32 0], 48, false⟩ := ⟨_, rfl⟩
  have nH1_ : H1_.n = H.n + 1 := by rw [hH1_]; rfl
  refine cf_val 2 (.pointer (some ⟨H.n, 0, none⟩)) H1_ (by kernel_rfl) ((by kernel_rfl : _ = some (Res.val (.pointer (some ⟨H.n, 0, none⟩)), H.push ⟨[Value.int .i64 0, .int .i64 0, .int .i64 0, .int .i64 0, .int .u32 0], 48, false⟩)).trans (by rw [← hH1_])) ?_
  refine cf_go 17 ?_
  refine cf_val 10 (.pointer (some ⟨A, off + 0 * 1, none⟩)) H1_ (by kernel_rfl) (by kernel_rfl) ?_
  have gH1_A : H1_.get (A) = some ⟨cells, e, ro⟩ := by rw [hH1_, Heap.get_push, if_neg (by omega)]; exact gA
  refine cf_val 11 (.int .u8 x0) H1_ (by kernel_rfl) ((by kernel_rfl : _ = val (aload T8 5 (.pointer (some ⟨A, off + 0 * 1, none⟩)) H1_) H1_).trans (val_of ((aload_at gH1_A).trans (aloadC_cellB (n := 1) (by kernel_rfl) (by kernel_rfl) c0)))) ?_
  refine cf_go 1 ?_
  refine cf_see 12 (.int .i64 x0) (see_int (x := IntKind.i64.wrap x0) (by kernel_rfl) (w64 rfl (by omega) (by omega))) ?_
  refine cf_go 1 ?_
  refine cf_val 14 (.pointer (some ⟨A, off + 1 * 1, none⟩)) H1_ (by kernel_rfl) (by kernel_rfl) ?_
  refine cf_val 15 (.int .u8 x1) H1_ (by kernel_rfl) ((by kernel_rfl : _ = val (aload T8 5 (.pointer (some ⟨A, off + 1 * 1, none⟩)) H1_) H1_).trans (val_of ((aload_at gH1_A).trans (aloadC_cellB (n := 1) (by kernel_rfl) (by kernel_rfl) c1)))) ?_
  refine cf_go 1 ?_
  refine cf_see 16 (.int .i64 x1) (see_int (x := IntKind.i64.wrap x1) (by kernel_rfl) (w64 rfl (by omega) (by omega))) ?_
  refine cf_go 1 ?_
  refine cf_val 18 (.pointer (some ⟨A, off + 2 * 1, none⟩)) H1_ (by kernel_rfl) (by kernel_rfl) ?_
  refine cf_val 19 (.int .u8 x2) H1_ (by kernel_rfl) ((by kernel_rfl : _ = val (aload T8 5 (.pointer (some ⟨A, off + 2 * 1, none⟩)) H1_) H1_).trans (val_of ((aload_at gH1_A).trans (aloadC_cellB (n := 1) (by kernel_rfl) (by kernel_rfl) c2)))) ?_
  refine cf_go 1 ?_
  refine cf_see 20 (.int .i64 x2) (see_int (x := IntKind.i64.wrap x2) (by kernel_rfl) (w64 rfl (by omega) (by omega))) ?_
  refine cf_go 1 ?_
  refine cf_val 22 (.pointer (some ⟨A, off + 3 * 1, none⟩)) H1_ (by kernel_rfl) (by kernel_rfl) ?_
  refine cf_val 23 (.int .u8 x3) H1_ (by kernel_rfl) ((by kernel_rfl : _ = val (aload T8 5 (.pointer (some ⟨A, off + 3 * 1, none⟩)) H1_) H1_).trans (val_of ((aload_at gH1_A).trans (aloadC_cellB (n := 1) (by kernel_rfl) (by kernel_rfl) c3)))) ?_
  refine cf_go 1 ?_
  refine cf_see 24 (.int .i64 x3) (see_int (x := IntKind.i64.wrap x3) (by kernel_rfl) (w64 rfl (by omega) (by omega))) ?_
  refine cf_go 1 ?_
  refine cf_val 26 (.pointer (some ⟨A, off + 4 * 1, none⟩)) H1_ (by kernel_rfl) (by kernel_rfl) ?_
  refine cf_val 27 (.int .u8 x4) H1_ (by kernel_rfl) ((by kernel_rfl : _ = val (aload T8 5 (.pointer (some ⟨A, off + 4 * 1, none⟩)) H1_) H1_).trans (val_of ((aload_at gH1_A).trans (aloadC_cellB (n := 1) (by kernel_rfl) (by kernel_rfl) c4)))) ?_
  refine cf_go 1 ?_
  refine cf_see 28 (.int .u32 x4) (see_int (x := IntKind.u32.wrap x4) (by kernel_rfl) (wu32 rfl (by omega) (by omega))) ?_
  refine cf_go 1 ?_
  refine cf_val 30 (.pointer (some ⟨A, off + 5 * 1, none⟩)) H1_ (by kernel_rfl) (by kernel_rfl) ?_
  refine cf_val 31 (.int .u8 x5) H1_ (by kernel_rfl) ((by kernel_rfl : _ = val (aload T8 5 (.pointer (some ⟨A, off + 5 * 1, none⟩)) H1_) H1_).trans (val_of ((aload_at gH1_A).trans (aloadC_cellB (n := 1) (by kernel_rfl) (by kernel_rfl) c5)))) ?_
  refine cf_go 1 ?_
  refine cf_see 32 (.int .u32 x5) (see_int (x := IntKind.u32.wrap x5) (by kernel_rfl) (wu32 rfl (by omega) (by omega))) ?_
  refine cf_go 1 ?_
  refine cf_see 33 (.int .u32 (x5 * 256)) (see_int (x := (IntKind.u32.wrap (x5 * 256))) (by kernel_rfl) (wu32 rfl (by omega) (by omega))) ?_
  refine cf_go 1 ?_
  refine cf_see 34 (.int .u32 (x4 + (x5 * 256))) (see_int (x := (IntKind.u32.wrap (((BitVec.ofInt 32 x4 ||| BitVec.ofInt 32 (x5 * 256)).toNat : Nat) : Int))) (by kernel_rfl) (or_add2 x4 (x5 * 256) 8 (by omega) (by omega) (by omega) (by omega) (by omega) (by omega) (by omega))) ?_
  refine cf_go 1 ?_
  refine cf_val 36 (.pointer (some ⟨A, off + 6 * 1, none⟩)) H1_ (by kernel_rfl) (by kernel_rfl) ?_
  refine cf_val 37 (.int .u8 x6) H1_ (by kernel_rfl) ((by kernel_rfl : _ = val (aload T8 5 (.pointer (some ⟨A, off + 6 * 1, none⟩)) H1_) H1_).trans (val_of ((aload_at gH1_A).trans (aloadC_cellB (n := 1) (by kernel_rfl) (by kernel_rfl) c6)))) ?_
  refine cf_go 1 ?_
  refine cf_see 38 (.int .u32 x6) (see_int (x := IntKind.u32.wrap x6) (by kernel_rfl) (wu32 rfl (by omega) (by omega))) ?_
  refine cf_go 1 ?_
  refine cf_see 39 (.int .u32 (x6 * 65536)) (see_int (x := (IntKind.u32.wrap (x6 * 65536))) (by kernel_rfl) (wu32 rfl (by omega) (by omega))) ?_
  refine cf_go 1 ?_
  refine cf_see 40 (.int .u32 ((x4 + (x5 * 256)) + (x6 * 65536))) (see_int (x := (IntKind.u32.wrap (((BitVec.ofInt 32 (x4 + (x5 * 256)) ||| BitVec.ofInt 32 (x6 * 65536)).toNat : Nat) : Int))) (by kernel_rfl) (or_add2 (x4 + (x5 * 256)) (x6 * 65536) 16 (by omega) (by omega) (by omega) (by omega) (by omega) (by omega) (by omega))) ?_
  refine cf_go 1 ?_
  refine cf_val 42 (.pointer (some ⟨A, off + 7 * 1, none⟩)) H1_ (by kernel_rfl) (by kernel_rfl) ?_
  refine cf_val 43 (.int .u8 x7) H1_ (by kernel_rfl) ((by kernel_rfl : _ = val (aload T8 5 (.pointer (some ⟨A, off + 7 * 1, none⟩)) H1_) H1_).trans (val_of ((aload_at gH1_A).trans (aloadC_cellB (n := 1) (by kernel_rfl) (by kernel_rfl) c7)))) ?_
  refine cf_go 1 ?_
  refine cf_see 44 (.int .u32 x7) (see_int (x := IntKind.u32.wrap x7) (by kernel_rfl) (wu32 rfl (by omega) (by omega))) ?_
  refine cf_go 1 ?_
  refine cf_see 45 (.int .u32 (x7 * 16777216)) (see_int (x := (IntKind.u32.wrap (x7 * 16777216))) (by kernel_rfl) (wu32 rfl (by omega) (by omega))) ?_
  refine cf_go 1 ?_
  refine cf_see 46 (.int .u32 (((x4 + (x5 * 256)) + (x6 * 65536)) + (x7 * 16777216))) (see_int (x := (IntKind.u32.wrap (((BitVec.ofInt 32 ((x4 + (x5 * 256)) + (x6 * 65536)) ||| BitVec.ofInt 32 (x7 * 16777216)).toNat : Nat) : Int))) (by kernel_rfl) (or_add2 ((x4 + (x5 * 256)) + (x6 * 65536)) (x7 * 16777216) 24 (by omega) (by omega) (by omega) (by omega) (by omega) (by omega) (by omega))) ?_
  refine cf_go 1 ?_
  obtain ⟨H2_, hH2_⟩ : ∃ x : Heap, x = H1_.push ⟨[Value.int .i64 0, .int .i64 0, .int .i64 0, .int .i64 0, .int .u32 0], 48, false⟩ := ⟨_, rfl⟩
  have nH2_ : H2_.n = H1_.n + 1 := by rw [hH2_]; rfl
  refine cf_val 4 (.pointer (some ⟨H1_.n, 0, none⟩)) H2_ (by kernel_rfl) ((by kernel_rfl : _ = some (Res.val (.pointer (some ⟨H1_.n, 0, none⟩)), H1_.push ⟨[Value.int .i64 0, .int .i64 0, .int .i64 0, .int .i64 0, .int .u32 0], 48, false⟩)).trans (by rw [← hH2_])) ?_
  have gH2_H1__n : H2_.get (H1_.n) = some ⟨[Value.int .i64 0, .int .i64 0, .int .i64 0, .int .i64 0, .int .u32 0], 48, false⟩ := by rw [hH2_]; exact (Heap.get_push _ _ _).trans (if_pos rfl)
  obtain ⟨H3_, hH3_⟩ : ∃ x : Heap, x = H2_.put (H1_.n) ⟨[Value.int .i64 x0, .int .i64 x1, .int .i64 x2, .int .i64 x3, .int .u32 (((x4 + (x5 * 256)) + (x6 * 65536)) + (x7 * 16777216))], 48, false⟩ := ⟨_, rfl⟩
  have nH3_ : H3_.n = H2_.n := by rw [hH3_]; rfl
  refine cf_skip H3_ (by kernel_rfl) ((by kernel_rfl : _ = skp (astore T8 48 (.pointer (some ⟨H1_.n, 0, none⟩)) (.agg #[.int .i64 x0, .int .i64 x1, .int .i64 x2, .int .i64 x3, .int .u32 (((x4 + (x5 * 256)) + (x6 * 65536)) + (x7 * 16777216))]) H2_)).trans (by rw [astore_to gH2_H1__n (by kernel_rfl), ← hH3_]; rfl)) ?_
  refine cf_go 5 ?_
  have gH3_H1__n : H3_.get (H1_.n) = some ⟨[Value.int .i64 x0, .int .i64 x1, .int .i64 x2, .int .i64 x3, .int .u32 (((x4 + (x5 * 256)) + (x6 * 65536)) + (x7 * 16777216))], 48, false⟩ := by rw [hH3_]; exact (Heap.get_put _ _ _ _).trans (if_pos rfl)
  refine cf_val 48 (.agg #[.int .i64 x0, .int .i64 x1, .int .i64 x2, .int .i64 x3, .int .u32 (((x4 + (x5 * 256)) + (x6 * 65536)) + (x7 * 16777216))]) H3_ (by kernel_rfl) ((by kernel_rfl : _ = val (aload T8 48 (.pointer (some ⟨H1_.n, 0, none⟩)) H3_) H3_).trans (val_of ((aload_at gH3_H1__n).trans (by kernel_rfl)))) ?_
  refine cf_ask 49 (.bool true) 37 #[.agg #[.int .i64 x0, .int .i64 x1, .int .i64 x2, .int .i64 x3, .int .u32 (((x4 + (x5 * 256)) + (x6 * 65536)) + (x7 * 16777216))]] (by kernel_rfl) (by kernel_rfl) (show some (Value.bool (rightV x0 x1 x2 x3 (((x4 + (x5 * 256)) + (x6 * 65536)) + (x7 * 16777216)))) = _ by rw [hr]) ?_
  refine cf_go 8 ?_
  refine cf_val 52 (.agg #[.int .i64 x0, .int .i64 x1, .int .i64 x2, .int .i64 x3, .int .u32 (((x4 + (x5 * 256)) + (x6 * 65536)) + (x7 * 16777216))]) H3_ (by kernel_rfl) ((by kernel_rfl : _ = val (aload T8 48 (.pointer (some ⟨H1_.n, 0, none⟩)) H3_) H3_).trans (val_of ((aload_at gH3_H1__n).trans (by kernel_rfl)))) ?_
  have gH3_H_n : H3_.get (H.n) = some ⟨[Value.int .i64 0, .int .i64 0, .int .i64 0, .int .i64 0, .int .u32 0], 48, false⟩ := by rw [hH3_, Heap.get_put, if_neg (by omega)]; rw [hH2_, Heap.get_push, if_neg (by omega)]; rw [hH1_]; exact (Heap.get_push _ _ _).trans (if_pos rfl)
  obtain ⟨H4_, hH4_⟩ : ∃ x : Heap, x = H3_.put (H.n) ⟨[Value.int .i64 x0, .int .i64 x1, .int .i64 x2, .int .i64 x3, .int .u32 (((x4 + (x5 * 256)) + (x6 * 65536)) + (x7 * 16777216))], 48, false⟩ := ⟨_, rfl⟩
  have nH4_ : H4_.n = H3_.n := by rw [hH4_]; rfl
  refine cf_skip H4_ (by kernel_rfl) ((by kernel_rfl : _ = skp (astore T8 48 (.pointer (some ⟨H.n, 0, none⟩)) (.agg #[.int .i64 x0, .int .i64 x1, .int .i64 x2, .int .i64 x3, .int .u32 (((x4 + (x5 * 256)) + (x6 * 65536)) + (x7 * 16777216))]) H3_)).trans (by rw [astore_to gH3_H_n (by kernel_rfl), ← hH4_]; rfl)) ?_
  refine cf_go 4 ?_
  have gH4_H_n : H4_.get (H.n) = some ⟨[Value.int .i64 x0, .int .i64 x1, .int .i64 x2, .int .i64 x3, .int .u32 (((x4 + (x5 * 256)) + (x6 * 65536)) + (x7 * 16777216))], 48, false⟩ := by rw [hH4_]; exact (Heap.get_put _ _ _ _).trans (if_pos rfl)
  refine cf_end (.tuple #[.agg #[.int .i64 x0, .int .i64 x1, .int .i64 x2, .int .i64 x3, .int .u32 (((x4 + (x5 * 256)) + (x6 * 65536)) + (x7 * 16777216))], .int .i64 0]) H4_ (by kernel_rfl) (ares_cell1 2 48 3 (.pointer (some ⟨H.n, 0, none⟩)) H4_ (by kernel_rfl) (by kernel_rfl) (by kernel_rfl) (by kernel_rfl) ((aload_at gH4_H_n).trans (by kernel_rfl))) (by kernel_rfl) ?_
  exact ⟨rfl, ⟨by omega, fun b hb => by rw [hH4_, Heap.get_put, if_neg (by omega), hH3_, Heap.get_put, if_neg (by omega), hH2_, Heap.get_push, if_neg (by omega), hH1_, Heap.get_push, if_neg (by omega)]⟩⟩
set_option maxHeartbeats 1000000 in
theorem dec_no {H : Heap} {A off cap : Nat} {cells : List Value} {e : TypeId} {ro : Bool} {x0 : Int} (c0 : cells[off + 0 * 1]? = some (.int .u8 x0)) (l0 : 0 ≤ x0) (m0 : x0 < 256) {x1 : Int} (c1 : cells[off + 1 * 1]? = some (.int .u8 x1)) (l1 : 0 ≤ x1) (m1 : x1 < 256) {x2 : Int} (c2 : cells[off + 2 * 1]? = some (.int .u8 x2)) (l2 : 0 ≤ x2) (m2 : x2 < 256) {x3 : Int} (c3 : cells[off + 3 * 1]? = some (.int .u8 x3)) (l3 : 0 ≤ x3) (m3 : x3 < 256) {x4 : Int} (c4 : cells[off + 4 * 1]? = some (.int .u8 x4)) (l4 : 0 ≤ x4) (m4 : x4 < 256) {x5 : Int} (c5 : cells[off + 5 * 1]? = some (.int .u8 x5)) (l5 : 0 ≤ x5) (m5 : x5 < 256) {x6 : Int} (c6 : cells[off + 6 * 1]? = some (.int .u8 x6)) (l6 : 0 ≤ x6) (m6 : x6 < 256) {x7 : Int} (c7 : cells[off + 7 * 1]? = some (.int .u8 x7)) (l7 : 0 ≤ x7) (m7 : x7 < 256) (gA : H.get A = some ⟨cells, e, ro⟩) (hA : A < H.n) (hr : rightV x0 x1 x2 x3 (((x4 + (x5 * 256)) + (x6 * 65536)) + (x7 * 16777216)) = false) : ACall Try.prog T8 34 #[.slice (some ⟨A, off, none⟩) 8 cap] H fun r H' => r = decR ((0, 0, 0, 0, 0), 12) ∧ Up H.n H H' := by
  refine acall_cf 53 (initTm 0 #[.slice (some ⟨A, off, none⟩) 8 cap]) rfl f34_fn f34_body rfl rfl ?_
  refine cf_go 2 ?_
  obtain ⟨H1_, hH1_⟩ : ∃ x : Heap, x = H.push ⟨[Value.int .i64 0, .int .i64 0, .int .i64 0, .int .i64 0, .int .u32 0], 48, false⟩ := ⟨_, rfl⟩
  have nH1_ : H1_.n = H.n + 1 := by rw [hH1_]; rfl
  refine cf_val 2 (.pointer (some ⟨H.n, 0, none⟩)) H1_ (by kernel_rfl) ((by kernel_rfl : _ = some (Res.val (.pointer (some ⟨H.n, 0, none⟩)), H.push ⟨[Value.int .i64 0, .int .i64 0, .int .i64 0, .int .i64 0, .int .u32 0], 48, false⟩)).trans (by rw [← hH1_])) ?_
  refine cf_go 17 ?_
  refine cf_val 10 (.pointer (some ⟨A, off + 0 * 1, none⟩)) H1_ (by kernel_rfl) (by kernel_rfl) ?_
  have gH1_A : H1_.get (A) = some ⟨cells, e, ro⟩ := by rw [hH1_, Heap.get_push, if_neg (by omega)]; exact gA
  refine cf_val 11 (.int .u8 x0) H1_ (by kernel_rfl) ((by kernel_rfl : _ = val (aload T8 5 (.pointer (some ⟨A, off + 0 * 1, none⟩)) H1_) H1_).trans (val_of ((aload_at gH1_A).trans (aloadC_cellB (n := 1) (by kernel_rfl) (by kernel_rfl) c0)))) ?_
  refine cf_go 1 ?_
  refine cf_see 12 (.int .i64 x0) (see_int (x := IntKind.i64.wrap x0) (by kernel_rfl) (w64 rfl (by omega) (by omega))) ?_
  refine cf_go 1 ?_
  refine cf_val 14 (.pointer (some ⟨A, off + 1 * 1, none⟩)) H1_ (by kernel_rfl) (by kernel_rfl) ?_
  refine cf_val 15 (.int .u8 x1) H1_ (by kernel_rfl) ((by kernel_rfl : _ = val (aload T8 5 (.pointer (some ⟨A, off + 1 * 1, none⟩)) H1_) H1_).trans (val_of ((aload_at gH1_A).trans (aloadC_cellB (n := 1) (by kernel_rfl) (by kernel_rfl) c1)))) ?_
  refine cf_go 1 ?_
  refine cf_see 16 (.int .i64 x1) (see_int (x := IntKind.i64.wrap x1) (by kernel_rfl) (w64 rfl (by omega) (by omega))) ?_
  refine cf_go 1 ?_
  refine cf_val 18 (.pointer (some ⟨A, off + 2 * 1, none⟩)) H1_ (by kernel_rfl) (by kernel_rfl) ?_
  refine cf_val 19 (.int .u8 x2) H1_ (by kernel_rfl) ((by kernel_rfl : _ = val (aload T8 5 (.pointer (some ⟨A, off + 2 * 1, none⟩)) H1_) H1_).trans (val_of ((aload_at gH1_A).trans (aloadC_cellB (n := 1) (by kernel_rfl) (by kernel_rfl) c2)))) ?_
  refine cf_go 1 ?_
  refine cf_see 20 (.int .i64 x2) (see_int (x := IntKind.i64.wrap x2) (by kernel_rfl) (w64 rfl (by omega) (by omega))) ?_
  refine cf_go 1 ?_
  refine cf_val 22 (.pointer (some ⟨A, off + 3 * 1, none⟩)) H1_ (by kernel_rfl) (by kernel_rfl) ?_
  refine cf_val 23 (.int .u8 x3) H1_ (by kernel_rfl) ((by kernel_rfl : _ = val (aload T8 5 (.pointer (some ⟨A, off + 3 * 1, none⟩)) H1_) H1_).trans (val_of ((aload_at gH1_A).trans (aloadC_cellB (n := 1) (by kernel_rfl) (by kernel_rfl) c3)))) ?_
  refine cf_go 1 ?_
  refine cf_see 24 (.int .i64 x3) (see_int (x := IntKind.i64.wrap x3) (by kernel_rfl) (w64 rfl (by omega) (by omega))) ?_
  refine cf_go 1 ?_
  refine cf_val 26 (.pointer (some ⟨A, off + 4 * 1, none⟩)) H1_ (by kernel_rfl) (by kernel_rfl) ?_
  refine cf_val 27 (.int .u8 x4) H1_ (by kernel_rfl) ((by kernel_rfl : _ = val (aload T8 5 (.pointer (some ⟨A, off + 4 * 1, none⟩)) H1_) H1_).trans (val_of ((aload_at gH1_A).trans (aloadC_cellB (n := 1) (by kernel_rfl) (by kernel_rfl) c4)))) ?_
  refine cf_go 1 ?_
  refine cf_see 28 (.int .u32 x4) (see_int (x := IntKind.u32.wrap x4) (by kernel_rfl) (wu32 rfl (by omega) (by omega))) ?_
  refine cf_go 1 ?_
  refine cf_val 30 (.pointer (some ⟨A, off + 5 * 1, none⟩)) H1_ (by kernel_rfl) (by kernel_rfl) ?_
  refine cf_val 31 (.int .u8 x5) H1_ (by kernel_rfl) ((by kernel_rfl : _ = val (aload T8 5 (.pointer (some ⟨A, off + 5 * 1, none⟩)) H1_) H1_).trans (val_of ((aload_at gH1_A).trans (aloadC_cellB (n := 1) (by kernel_rfl) (by kernel_rfl) c5)))) ?_
  refine cf_go 1 ?_
  refine cf_see 32 (.int .u32 x5) (see_int (x := IntKind.u32.wrap x5) (by kernel_rfl) (wu32 rfl (by omega) (by omega))) ?_
  refine cf_go 1 ?_
  refine cf_see 33 (.int .u32 (x5 * 256)) (see_int (x := (IntKind.u32.wrap (x5 * 256))) (by kernel_rfl) (wu32 rfl (by omega) (by omega))) ?_
  refine cf_go 1 ?_
  refine cf_see 34 (.int .u32 (x4 + (x5 * 256))) (see_int (x := (IntKind.u32.wrap (((BitVec.ofInt 32 x4 ||| BitVec.ofInt 32 (x5 * 256)).toNat : Nat) : Int))) (by kernel_rfl) (or_add2 x4 (x5 * 256) 8 (by omega) (by omega) (by omega) (by omega) (by omega) (by omega) (by omega))) ?_
  refine cf_go 1 ?_
  refine cf_val 36 (.pointer (some ⟨A, off + 6 * 1, none⟩)) H1_ (by kernel_rfl) (by kernel_rfl) ?_
  refine cf_val 37 (.int .u8 x6) H1_ (by kernel_rfl) ((by kernel_rfl : _ = val (aload T8 5 (.pointer (some ⟨A, off + 6 * 1, none⟩)) H1_) H1_).trans (val_of ((aload_at gH1_A).trans (aloadC_cellB (n := 1) (by kernel_rfl) (by kernel_rfl) c6)))) ?_
  refine cf_go 1 ?_
  refine cf_see 38 (.int .u32 x6) (see_int (x := IntKind.u32.wrap x6) (by kernel_rfl) (wu32 rfl (by omega) (by omega))) ?_
  refine cf_go 1 ?_
  refine cf_see 39 (.int .u32 (x6 * 65536)) (see_int (x := (IntKind.u32.wrap (x6 * 65536))) (by kernel_rfl) (wu32 rfl (by omega) (by omega))) ?_
  refine cf_go 1 ?_
  refine cf_see 40 (.int .u32 ((x4 + (x5 * 256)) + (x6 * 65536))) (see_int (x := (IntKind.u32.wrap (((BitVec.ofInt 32 (x4 + (x5 * 256)) ||| BitVec.ofInt 32 (x6 * 65536)).toNat : Nat) : Int))) (by kernel_rfl) (or_add2 (x4 + (x5 * 256)) (x6 * 65536) 16 (by omega) (by omega) (by omega) (by omega) (by omega) (by omega) (by omega))) ?_
  refine cf_go 1 ?_
  refine cf_val 42 (.pointer (some ⟨A, off + 7 * 1, none⟩)) H1_ (by kernel_rfl) (by kernel_rfl) ?_
  refine cf_val 43 (.int .u8 x7) H1_ (by kernel_rfl) ((by kernel_rfl : _ = val (aload T8 5 (.pointer (some ⟨A, off + 7 * 1, none⟩)) H1_) H1_).trans (val_of ((aload_at gH1_A).trans (aloadC_cellB (n := 1) (by kernel_rfl) (by kernel_rfl) c7)))) ?_
  refine cf_go 1 ?_
  refine cf_see 44 (.int .u32 x7) (see_int (x := IntKind.u32.wrap x7) (by kernel_rfl) (wu32 rfl (by omega) (by omega))) ?_
  refine cf_go 1 ?_
  refine cf_see 45 (.int .u32 (x7 * 16777216)) (see_int (x := (IntKind.u32.wrap (x7 * 16777216))) (by kernel_rfl) (wu32 rfl (by omega) (by omega))) ?_
  refine cf_go 1 ?_
  refine cf_see 46 (.int .u32 (((x4 + (x5 * 256)) + (x6 * 65536)) + (x7 * 16777216))) (see_int (x := (IntKind.u32.wrap (((BitVec.ofInt 32 ((x4 + (x5 * 256)) + (x6 * 65536)) ||| BitVec.ofInt 32 (x7 * 16777216)).toNat : Nat) : Int))) (by kernel_rfl) (or_add2 ((x4 + (x5 * 256)) + (x6 * 65536)) (x7 * 16777216) 24 (by omega) (by omega) (by omega) (by omega) (by omega) (by omega) (by omega))) ?_
  refine cf_go 1 ?_
  obtain ⟨H2_, hH2_⟩ : ∃ x : Heap, x = H1_.push ⟨[Value.int .i64 0, .int .i64 0, .int .i64 0, .int .i64 0, .int .u32 0], 48, false⟩ := ⟨_, rfl⟩
  have nH2_ : H2_.n = H1_.n + 1 := by rw [hH2_]; rfl
  refine cf_val 4 (.pointer (some ⟨H1_.n, 0, none⟩)) H2_ (by kernel_rfl) ((by kernel_rfl : _ = some (Res.val (.pointer (some ⟨H1_.n, 0, none⟩)), H1_.push ⟨[Value.int .i64 0, .int .i64 0, .int .i64 0, .int .i64 0, .int .u32 0], 48, false⟩)).trans (by rw [← hH2_])) ?_
  have gH2_H1__n : H2_.get (H1_.n) = some ⟨[Value.int .i64 0, .int .i64 0, .int .i64 0, .int .i64 0, .int .u32 0], 48, false⟩ := by rw [hH2_]; exact (Heap.get_push _ _ _).trans (if_pos rfl)
  obtain ⟨H3_, hH3_⟩ : ∃ x : Heap, x = H2_.put (H1_.n) ⟨[Value.int .i64 x0, .int .i64 x1, .int .i64 x2, .int .i64 x3, .int .u32 (((x4 + (x5 * 256)) + (x6 * 65536)) + (x7 * 16777216))], 48, false⟩ := ⟨_, rfl⟩
  have nH3_ : H3_.n = H2_.n := by rw [hH3_]; rfl
  refine cf_skip H3_ (by kernel_rfl) ((by kernel_rfl : _ = skp (astore T8 48 (.pointer (some ⟨H1_.n, 0, none⟩)) (.agg #[.int .i64 x0, .int .i64 x1, .int .i64 x2, .int .i64 x3, .int .u32 (((x4 + (x5 * 256)) + (x6 * 65536)) + (x7 * 16777216))]) H2_)).trans (by rw [astore_to gH2_H1__n (by kernel_rfl), ← hH3_]; rfl)) ?_
  refine cf_go 5 ?_
  have gH3_H1__n : H3_.get (H1_.n) = some ⟨[Value.int .i64 x0, .int .i64 x1, .int .i64 x2, .int .i64 x3, .int .u32 (((x4 + (x5 * 256)) + (x6 * 65536)) + (x7 * 16777216))], 48, false⟩ := by rw [hH3_]; exact (Heap.get_put _ _ _ _).trans (if_pos rfl)
  refine cf_val 48 (.agg #[.int .i64 x0, .int .i64 x1, .int .i64 x2, .int .i64 x3, .int .u32 (((x4 + (x5 * 256)) + (x6 * 65536)) + (x7 * 16777216))]) H3_ (by kernel_rfl) ((by kernel_rfl : _ = val (aload T8 48 (.pointer (some ⟨H1_.n, 0, none⟩)) H3_) H3_).trans (val_of ((aload_at gH3_H1__n).trans (by kernel_rfl)))) ?_
  refine cf_ask 49 (.bool false) 37 #[.agg #[.int .i64 x0, .int .i64 x1, .int .i64 x2, .int .i64 x3, .int .u32 (((x4 + (x5 * 256)) + (x6 * 65536)) + (x7 * 16777216))]] (by kernel_rfl) (by kernel_rfl) (show some (Value.bool (rightV x0 x1 x2 x3 (((x4 + (x5 * 256)) + (x6 * 65536)) + (x7 * 16777216)))) = _ by rw [hr]) ?_
  refine cf_go 7 ?_
  have gH3_H_n : H3_.get (H.n) = some ⟨[Value.int .i64 0, .int .i64 0, .int .i64 0, .int .i64 0, .int .u32 0], 48, false⟩ := by rw [hH3_, Heap.get_put, if_neg (by omega)]; rw [hH2_, Heap.get_push, if_neg (by omega)]; rw [hH1_]; exact (Heap.get_push _ _ _).trans (if_pos rfl)
  obtain ⟨H4_, hH4_⟩ : ∃ x : Heap, x = H3_.put (H.n) ⟨[Value.int .i64 0, .int .i64 0, .int .i64 0, .int .i64 0, .int .u32 0], 48, false⟩ := ⟨_, rfl⟩
  have nH4_ : H4_.n = H3_.n := by rw [hH4_]; rfl
  refine cf_skip H4_ (by kernel_rfl) ((by kernel_rfl : _ = skp (astore T8 48 (.pointer (some ⟨H.n, 0, none⟩)) (.agg #[.int .i64 0, .int .i64 0, .int .i64 0, .int .i64 0, .int .u32 0]) H3_)).trans (by rw [astore_to gH3_H_n (by kernel_rfl), ← hH4_]; rfl)) ?_
  refine cf_go 5 ?_
  have gH4_H_n : H4_.get (H.n) = some ⟨[Value.int .i64 0, .int .i64 0, .int .i64 0, .int .i64 0, .int .u32 0], 48, false⟩ := by rw [hH4_]; exact (Heap.get_put _ _ _ _).trans (if_pos rfl)
  refine cf_end (.tuple #[.agg #[.int .i64 0, .int .i64 0, .int .i64 0, .int .i64 0, .int .u32 0], .int .i64 12]) H4_ (by kernel_rfl) (ares_cell1 2 48 3 (.pointer (some ⟨H.n, 0, none⟩)) H4_ (by kernel_rfl) (by kernel_rfl) (by kernel_rfl) (by kernel_rfl) ((aload_at gH4_H_n).trans (by kernel_rfl))) (by kernel_rfl) ?_
  exact ⟨rfl, ⟨by omega, fun b hb => by rw [hH4_, Heap.get_put, if_neg (by omega), hH3_, Heap.get_put, if_neg (by omega), hH2_, Heap.get_push, if_neg (by omega), hH1_, Heap.get_push, if_neg (by omega)]⟩⟩
theorem dec_any {H : Heap} {v : Value} {l : List Int} (h : Byts H v l) : ACall Try.prog T8 34 #[v] H fun r H' => r = decR (readL l) ∧ Up H.n H H' := by
  rcases h.at_ with ⟨cap, rfl, rfl⟩ | ⟨A, off, cap, cells, e, ro, rfl, gA, hA, hb⟩
  · exact dec_nil
  · by_cases h8 : l.length = 8
    · match l, h8 with
      | [x0, x1, x2, x3, x4, x5, x6, x7], _ =>
        obtain ⟨c0, l0, m0⟩ := hb 0 (by simp)
        obtain ⟨c1, l1, m1⟩ := hb 1 (by simp)
        obtain ⟨c2, l2, m2⟩ := hb 2 (by simp)
        obtain ⟨c3, l3, m3⟩ := hb 3 (by simp)
        obtain ⟨c4, l4, m4⟩ := hb 4 (by simp)
        obtain ⟨c5, l5, m5⟩ := hb 5 (by simp)
        obtain ⟨c6, l6, m6⟩ := hb 6 (by simp)
        obtain ⟨c7, l7, m7⟩ := hb 7 (by simp)
        simp only [List.getElem_cons_zero, List.getElem_cons_succ] at c0 l0 m0 c1 l1 m1 c2 l2 m2 c3 l3 m3 c4 l4 m4 c5 l5 m5 c6 l6 m6 c7 l7 m7
        cases hr : rightV x0 x1 x2 x3 (((x4 + (x5 * 256)) + (x6 * 65536)) + (x7 * 16777216))
        · have e : readL [x0, x1, x2, x3, x4, x5, x6, x7] = ((0, 0, 0, 0, 0), 12) := by simp only [readL, num4, hr, cond_false]
          rw [e]; exact dec_no c0 l0 m0 c1 l1 m1 c2 l2 m2 c3 l3 m3 c4 l4 m4 c5 l5 m5 c6 l6 m6 c7 l7 m7 gA hA hr
        · have e : readL [x0, x1, x2, x3, x4, x5, x6, x7] = ((x0, x1, x2, x3, (((x4 + (x5 * 256)) + (x6 * 65536)) + (x7 * 16777216))), 0) := by simp only [readL, num4, hr, cond_true]
          rw [e]; exact dec_ok c0 l0 m0 c1 l1 m1 c2 l2 m2 c3 l3 m3 c4 l4 m4 c5 l5 m5 c6 l6 m6 c7 l7 m7 gA hA hr
    · rw [readL_ne h8]; exact dec_ne h8
noncomputable def f30b : Code := Try.f30.body.getD .skip
theorem f30_body : Try.f30.body = some f30b := by kernel_rfl
theorem f30_fn : T8.fn 30 = some Try.f30 := by kernel_rfl
theorem rdec_nil {H : Heap} {pt : Option Addr} {cap : Nat} : ACall Try.prog T8 30 #[.slice pt 0 cap] H fun r H' => r = rdecR ((0, 0, 0, 0, 0), 10) ∧ Up H.n H H' := by
  refine acall_cf 53 (initTm 0 #[(.slice pt 0 cap)]) rfl f30_fn f30_body rfl rfl ?_
  refine cf_go 2 ?_
  obtain ⟨H1_, hH1_⟩ : ∃ x : Heap, x = H.push ⟨[Value.int .i64 0, .int .i64 0, .int .i64 0, .int .i64 0, .int .u32 0], 48, false⟩ := ⟨_, rfl⟩
  have nH1_ : H1_.n = H.n + 1 := by rw [hH1_]; rfl
  refine cf_val 2 (.pointer (some ⟨H.n, 0, none⟩)) H1_ (by kernel_rfl) ((by kernel_rfl : _ = some (Res.val (.pointer (some ⟨H.n, 0, none⟩)), H.push ⟨[Value.int .i64 0, .int .i64 0, .int .i64 0, .int .i64 0, .int .u32 0], 48, false⟩)).trans (by rw [← hH1_])) ?_
  refine cf_go 15 ?_
  have gH1_H_n : H1_.get (H.n) = some ⟨[Value.int .i64 0, .int .i64 0, .int .i64 0, .int .i64 0, .int .u32 0], 48, false⟩ := by rw [hH1_]; exact (Heap.get_push _ _ _).trans (if_pos rfl)
  obtain ⟨H2_, hH2_⟩ : ∃ x : Heap, x = H1_.put (H.n) ⟨[Value.int .i64 0, .int .i64 0, .int .i64 0, .int .i64 0, .int .u32 0], 48, false⟩ := ⟨_, rfl⟩
  have nH2_ : H2_.n = H1_.n := by rw [hH2_]; rfl
  refine cf_skip H2_ (by kernel_rfl) ((by kernel_rfl : _ = skp (astore T8 48 (.pointer (some ⟨H.n, 0, none⟩)) (.agg #[.int .i64 0, .int .i64 0, .int .i64 0, .int .i64 0, .int .u32 0]) H1_)).trans (by rw [astore_to gH1_H_n (by kernel_rfl), ← hH2_]; rfl)) ?_
  refine cf_go 5 ?_
  have gH2_H_n : H2_.get (H.n) = some ⟨[Value.int .i64 0, .int .i64 0, .int .i64 0, .int .i64 0, .int .u32 0], 48, false⟩ := by rw [hH2_]; exact (Heap.get_put _ _ _ _).trans (if_pos rfl)
  refine cf_end (.tuple #[.agg #[.int .i64 0, .int .i64 0, .int .i64 0, .int .i64 0, .int .u32 0], .bool false]) H2_ (by kernel_rfl) (ares_cell1 2 48 3 (.pointer (some ⟨H.n, 0, none⟩)) H2_ (by kernel_rfl) (by kernel_rfl) (by kernel_rfl) (by kernel_rfl) ((aload_at gH2_H_n).trans (by kernel_rfl))) (by kernel_rfl) ?_
  exact ⟨rfl, ⟨by omega, fun b hb => by rw [hH2_, Heap.get_put, if_neg (by omega), hH1_, Heap.get_push, if_neg (by omega)]⟩⟩
theorem rdec_ne {H : Heap} {A off n cap : Nat} (hn : n ≠ 8) : ACall Try.prog T8 30 #[.slice (some ⟨A, off, none⟩) n cap] H fun r H' => r = rdecR ((0, 0, 0, 0, 0), 10) ∧ Up H.n H H' := by
  refine acall_cf 53 (initTm 0 #[.slice (some ⟨A, off, none⟩) n cap]) rfl f30_fn f30_body rfl rfl ?_
  refine cf_go 2 ?_
  obtain ⟨H1_, hH1_⟩ : ∃ x : Heap, x = H.push ⟨[Value.int .i64 0, .int .i64 0, .int .i64 0, .int .i64 0, .int .u32 0], 48, false⟩ := ⟨_, rfl⟩
  have nH1_ : H1_.n = H.n + 1 := by rw [hH1_]; rfl
  refine cf_val 2 (.pointer (some ⟨H.n, 0, none⟩)) H1_ (by kernel_rfl) ((by kernel_rfl : _ = some (Res.val (.pointer (some ⟨H.n, 0, none⟩)), H.push ⟨[Value.int .i64 0, .int .i64 0, .int .i64 0, .int .i64 0, .int .u32 0], 48, false⟩)).trans (by rw [← hH1_])) ?_
  refine cf_go 11 ?_
  refine cf_see 7 (.bool true) (see_bool (by kernel_rfl) ((by simp; omega) : ((((n : Nat) : Int) != 8)) = true)) ?_
  refine cf_go 4 ?_
  have gH1_H_n : H1_.get (H.n) = some ⟨[Value.int .i64 0, .int .i64 0, .int .i64 0, .int .i64 0, .int .u32 0], 48, false⟩ := by rw [hH1_]; exact (Heap.get_push _ _ _).trans (if_pos rfl)
  obtain ⟨H2_, hH2_⟩ : ∃ x : Heap, x = H1_.put (H.n) ⟨[Value.int .i64 0, .int .i64 0, .int .i64 0, .int .i64 0, .int .u32 0], 48, false⟩ := ⟨_, rfl⟩
  have nH2_ : H2_.n = H1_.n := by rw [hH2_]; rfl
  refine cf_skip H2_ (by kernel_rfl) ((by kernel_rfl : _ = skp (astore T8 48 (.pointer (some ⟨H.n, 0, none⟩)) (.agg #[.int .i64 0, .int .i64 0, .int .i64 0, .int .i64 0, .int .u32 0]) H1_)).trans (by rw [astore_to gH1_H_n (by kernel_rfl), ← hH2_]; rfl)) ?_
  refine cf_go 5 ?_
  have gH2_H_n : H2_.get (H.n) = some ⟨[Value.int .i64 0, .int .i64 0, .int .i64 0, .int .i64 0, .int .u32 0], 48, false⟩ := by rw [hH2_]; exact (Heap.get_put _ _ _ _).trans (if_pos rfl)
  refine cf_end (.tuple #[.agg #[.int .i64 0, .int .i64 0, .int .i64 0, .int .i64 0, .int .u32 0], .bool false]) H2_ (by kernel_rfl) (ares_cell1 2 48 3 (.pointer (some ⟨H.n, 0, none⟩)) H2_ (by kernel_rfl) (by kernel_rfl) (by kernel_rfl) (by kernel_rfl) ((aload_at gH2_H_n).trans (by kernel_rfl))) (by kernel_rfl) ?_
  exact ⟨rfl, ⟨by omega, fun b hb => by rw [hH2_, Heap.get_put, if_neg (by omega), hH1_, Heap.get_push, if_neg (by omega)]⟩⟩
set_option maxHeartbeats 1000000 in
theorem rdec_ok {H : Heap} {A off cap : Nat} {cells : List Value} {e : TypeId} {ro : Bool} {x0 : Int} (c0 : cells[off + 0 * 1]? = some (.int .u8 x0)) (l0 : 0 ≤ x0) (m0 : x0 < 256) {x1 : Int} (c1 : cells[off + 1 * 1]? = some (.int .u8 x1)) (l1 : 0 ≤ x1) (m1 : x1 < 256) {x2 : Int} (c2 : cells[off + 2 * 1]? = some (.int .u8 x2)) (l2 : 0 ≤ x2) (m2 : x2 < 256) {x3 : Int} (c3 : cells[off + 3 * 1]? = some (.int .u8 x3)) (l3 : 0 ≤ x3) (m3 : x3 < 256) {x4 : Int} (c4 : cells[off + 4 * 1]? = some (.int .u8 x4)) (l4 : 0 ≤ x4) (m4 : x4 < 256) {x5 : Int} (c5 : cells[off + 5 * 1]? = some (.int .u8 x5)) (l5 : 0 ≤ x5) (m5 : x5 < 256) {x6 : Int} (c6 : cells[off + 6 * 1]? = some (.int .u8 x6)) (l6 : 0 ≤ x6) (m6 : x6 < 256) {x7 : Int} (c7 : cells[off + 7 * 1]? = some (.int .u8 x7)) (l7 : 0 ≤ x7) (m7 : x7 < 256) (gA : H.get A = some ⟨cells, e, ro⟩) (hA : A < H.n) (hr : rightV x0 x1 x2 x3 (((x4 + (x5 * 256)) + (x6 * 65536)) + (x7 * 16777216)) = true) : ACall Try.prog T8 30 #[.slice (some ⟨A, off, none⟩) 8 cap] H fun r H' => r = rdecR ((x0, x1, x2, x3, (((x4 + (x5 * 256)) + (x6 * 65536)) + (x7 * 16777216))), 0) ∧ Up H.n H H' := by
  refine acall_cf 53 (initTm 0 #[.slice (some ⟨A, off, none⟩) 8 cap]) rfl f30_fn f30_body rfl rfl ?_
  refine cf_go 2 ?_
  obtain ⟨H1_, hH1_⟩ : ∃ x : Heap, x = H.push ⟨[Value.int .i64 0, .int .i64 0, .int .i64 0, .int .i64 0, .int .u32 0], 48, false⟩ := ⟨_, rfl⟩
  have nH1_ : H1_.n = H.n + 1 := by rw [hH1_]; rfl
  refine cf_val 2 (.pointer (some ⟨H.n, 0, none⟩)) H1_ (by kernel_rfl) ((by kernel_rfl : _ = some (Res.val (.pointer (some ⟨H.n, 0, none⟩)), H.push ⟨[Value.int .i64 0, .int .i64 0, .int .i64 0, .int .i64 0, .int .u32 0], 48, false⟩)).trans (by rw [← hH1_])) ?_
  refine cf_go 17 ?_
  refine cf_val 10 (.pointer (some ⟨A, off + 0 * 1, none⟩)) H1_ (by kernel_rfl) (by kernel_rfl) ?_
  have gH1_A : H1_.get (A) = some ⟨cells, e, ro⟩ := by rw [hH1_, Heap.get_push, if_neg (by omega)]; exact gA
  refine cf_val 11 (.int .u8 x0) H1_ (by kernel_rfl) ((by kernel_rfl : _ = val (aload T8 5 (.pointer (some ⟨A, off + 0 * 1, none⟩)) H1_) H1_).trans (val_of ((aload_at gH1_A).trans (aloadC_cellB (n := 1) (by kernel_rfl) (by kernel_rfl) c0)))) ?_
  refine cf_go 1 ?_
  refine cf_see 12 (.int .i64 x0) (see_int (x := IntKind.i64.wrap x0) (by kernel_rfl) (w64 rfl (by omega) (by omega))) ?_
  refine cf_go 1 ?_
  refine cf_val 14 (.pointer (some ⟨A, off + 1 * 1, none⟩)) H1_ (by kernel_rfl) (by kernel_rfl) ?_
  refine cf_val 15 (.int .u8 x1) H1_ (by kernel_rfl) ((by kernel_rfl : _ = val (aload T8 5 (.pointer (some ⟨A, off + 1 * 1, none⟩)) H1_) H1_).trans (val_of ((aload_at gH1_A).trans (aloadC_cellB (n := 1) (by kernel_rfl) (by kernel_rfl) c1)))) ?_
  refine cf_go 1 ?_
  refine cf_see 16 (.int .i64 x1) (see_int (x := IntKind.i64.wrap x1) (by kernel_rfl) (w64 rfl (by omega) (by omega))) ?_
  refine cf_go 1 ?_
  refine cf_val 18 (.pointer (some ⟨A, off + 2 * 1, none⟩)) H1_ (by kernel_rfl) (by kernel_rfl) ?_
  refine cf_val 19 (.int .u8 x2) H1_ (by kernel_rfl) ((by kernel_rfl : _ = val (aload T8 5 (.pointer (some ⟨A, off + 2 * 1, none⟩)) H1_) H1_).trans (val_of ((aload_at gH1_A).trans (aloadC_cellB (n := 1) (by kernel_rfl) (by kernel_rfl) c2)))) ?_
  refine cf_go 1 ?_
  refine cf_see 20 (.int .i64 x2) (see_int (x := IntKind.i64.wrap x2) (by kernel_rfl) (w64 rfl (by omega) (by omega))) ?_
  refine cf_go 1 ?_
  refine cf_val 22 (.pointer (some ⟨A, off + 3 * 1, none⟩)) H1_ (by kernel_rfl) (by kernel_rfl) ?_
  refine cf_val 23 (.int .u8 x3) H1_ (by kernel_rfl) ((by kernel_rfl : _ = val (aload T8 5 (.pointer (some ⟨A, off + 3 * 1, none⟩)) H1_) H1_).trans (val_of ((aload_at gH1_A).trans (aloadC_cellB (n := 1) (by kernel_rfl) (by kernel_rfl) c3)))) ?_
  refine cf_go 1 ?_
  refine cf_see 24 (.int .i64 x3) (see_int (x := IntKind.i64.wrap x3) (by kernel_rfl) (w64 rfl (by omega) (by omega))) ?_
  refine cf_go 1 ?_
  refine cf_val 26 (.pointer (some ⟨A, off + 4 * 1, none⟩)) H1_ (by kernel_rfl) (by kernel_rfl) ?_
  refine cf_val 27 (.int .u8 x4) H1_ (by kernel_rfl) ((by kernel_rfl : _ = val (aload T8 5 (.pointer (some ⟨A, off + 4 * 1, none⟩)) H1_) H1_).trans (val_of ((aload_at gH1_A).trans (aloadC_cellB (n := 1) (by kernel_rfl) (by kernel_rfl) c4)))) ?_
  refine cf_go 1 ?_
  refine cf_see 28 (.int .u32 x4) (see_int (x := IntKind.u32.wrap x4) (by kernel_rfl) (wu32 rfl (by omega) (by omega))) ?_
  refine cf_go 1 ?_
  refine cf_val 30 (.pointer (some ⟨A, off + 5 * 1, none⟩)) H1_ (by kernel_rfl) (by kernel_rfl) ?_
  refine cf_val 31 (.int .u8 x5) H1_ (by kernel_rfl) ((by kernel_rfl : _ = val (aload T8 5 (.pointer (some ⟨A, off + 5 * 1, none⟩)) H1_) H1_).trans (val_of ((aload_at gH1_A).trans (aloadC_cellB (n := 1) (by kernel_rfl) (by kernel_rfl) c5)))) ?_
  refine cf_go 1 ?_
  refine cf_see 32 (.int .u32 x5) (see_int (x := IntKind.u32.wrap x5) (by kernel_rfl) (wu32 rfl (by omega) (by omega))) ?_
  refine cf_go 1 ?_
  refine cf_see 33 (.int .u32 (x5 * 256)) (see_int (x := (IntKind.u32.wrap (x5 * 256))) (by kernel_rfl) (wu32 rfl (by omega) (by omega))) ?_
  refine cf_go 1 ?_
  refine cf_see 34 (.int .u32 (x4 + (x5 * 256))) (see_int (x := (IntKind.u32.wrap (((BitVec.ofInt 32 x4 ||| BitVec.ofInt 32 (x5 * 256)).toNat : Nat) : Int))) (by kernel_rfl) (or_add2 x4 (x5 * 256) 8 (by omega) (by omega) (by omega) (by omega) (by omega) (by omega) (by omega))) ?_
  refine cf_go 1 ?_
  refine cf_val 36 (.pointer (some ⟨A, off + 6 * 1, none⟩)) H1_ (by kernel_rfl) (by kernel_rfl) ?_
  refine cf_val 37 (.int .u8 x6) H1_ (by kernel_rfl) ((by kernel_rfl : _ = val (aload T8 5 (.pointer (some ⟨A, off + 6 * 1, none⟩)) H1_) H1_).trans (val_of ((aload_at gH1_A).trans (aloadC_cellB (n := 1) (by kernel_rfl) (by kernel_rfl) c6)))) ?_
  refine cf_go 1 ?_
  refine cf_see 38 (.int .u32 x6) (see_int (x := IntKind.u32.wrap x6) (by kernel_rfl) (wu32 rfl (by omega) (by omega))) ?_
  refine cf_go 1 ?_
  refine cf_see 39 (.int .u32 (x6 * 65536)) (see_int (x := (IntKind.u32.wrap (x6 * 65536))) (by kernel_rfl) (wu32 rfl (by omega) (by omega))) ?_
  refine cf_go 1 ?_
  refine cf_see 40 (.int .u32 ((x4 + (x5 * 256)) + (x6 * 65536))) (see_int (x := (IntKind.u32.wrap (((BitVec.ofInt 32 (x4 + (x5 * 256)) ||| BitVec.ofInt 32 (x6 * 65536)).toNat : Nat) : Int))) (by kernel_rfl) (or_add2 (x4 + (x5 * 256)) (x6 * 65536) 16 (by omega) (by omega) (by omega) (by omega) (by omega) (by omega) (by omega))) ?_
  refine cf_go 1 ?_
  refine cf_val 42 (.pointer (some ⟨A, off + 7 * 1, none⟩)) H1_ (by kernel_rfl) (by kernel_rfl) ?_
  refine cf_val 43 (.int .u8 x7) H1_ (by kernel_rfl) ((by kernel_rfl : _ = val (aload T8 5 (.pointer (some ⟨A, off + 7 * 1, none⟩)) H1_) H1_).trans (val_of ((aload_at gH1_A).trans (aloadC_cellB (n := 1) (by kernel_rfl) (by kernel_rfl) c7)))) ?_
  refine cf_go 1 ?_
  refine cf_see 44 (.int .u32 x7) (see_int (x := IntKind.u32.wrap x7) (by kernel_rfl) (wu32 rfl (by omega) (by omega))) ?_
  refine cf_go 1 ?_
  refine cf_see 45 (.int .u32 (x7 * 16777216)) (see_int (x := (IntKind.u32.wrap (x7 * 16777216))) (by kernel_rfl) (wu32 rfl (by omega) (by omega))) ?_
  refine cf_go 1 ?_
  refine cf_see 46 (.int .u32 (((x4 + (x5 * 256)) + (x6 * 65536)) + (x7 * 16777216))) (see_int (x := (IntKind.u32.wrap (((BitVec.ofInt 32 ((x4 + (x5 * 256)) + (x6 * 65536)) ||| BitVec.ofInt 32 (x7 * 16777216)).toNat : Nat) : Int))) (by kernel_rfl) (or_add2 ((x4 + (x5 * 256)) + (x6 * 65536)) (x7 * 16777216) 24 (by omega) (by omega) (by omega) (by omega) (by omega) (by omega) (by omega))) ?_
  refine cf_go 1 ?_
  obtain ⟨H2_, hH2_⟩ : ∃ x : Heap, x = H1_.push ⟨[Value.int .i64 0, .int .i64 0, .int .i64 0, .int .i64 0, .int .u32 0], 48, false⟩ := ⟨_, rfl⟩
  have nH2_ : H2_.n = H1_.n + 1 := by rw [hH2_]; rfl
  refine cf_val 4 (.pointer (some ⟨H1_.n, 0, none⟩)) H2_ (by kernel_rfl) ((by kernel_rfl : _ = some (Res.val (.pointer (some ⟨H1_.n, 0, none⟩)), H1_.push ⟨[Value.int .i64 0, .int .i64 0, .int .i64 0, .int .i64 0, .int .u32 0], 48, false⟩)).trans (by rw [← hH2_])) ?_
  have gH2_H1__n : H2_.get (H1_.n) = some ⟨[Value.int .i64 0, .int .i64 0, .int .i64 0, .int .i64 0, .int .u32 0], 48, false⟩ := by rw [hH2_]; exact (Heap.get_push _ _ _).trans (if_pos rfl)
  obtain ⟨H3_, hH3_⟩ : ∃ x : Heap, x = H2_.put (H1_.n) ⟨[Value.int .i64 x0, .int .i64 x1, .int .i64 x2, .int .i64 x3, .int .u32 (((x4 + (x5 * 256)) + (x6 * 65536)) + (x7 * 16777216))], 48, false⟩ := ⟨_, rfl⟩
  have nH3_ : H3_.n = H2_.n := by rw [hH3_]; rfl
  refine cf_skip H3_ (by kernel_rfl) ((by kernel_rfl : _ = skp (astore T8 48 (.pointer (some ⟨H1_.n, 0, none⟩)) (.agg #[.int .i64 x0, .int .i64 x1, .int .i64 x2, .int .i64 x3, .int .u32 (((x4 + (x5 * 256)) + (x6 * 65536)) + (x7 * 16777216))]) H2_)).trans (by rw [astore_to gH2_H1__n (by kernel_rfl), ← hH3_]; rfl)) ?_
  refine cf_go 5 ?_
  have gH3_H1__n : H3_.get (H1_.n) = some ⟨[Value.int .i64 x0, .int .i64 x1, .int .i64 x2, .int .i64 x3, .int .u32 (((x4 + (x5 * 256)) + (x6 * 65536)) + (x7 * 16777216))], 48, false⟩ := by rw [hH3_]; exact (Heap.get_put _ _ _ _).trans (if_pos rfl)
  refine cf_val 48 (.agg #[.int .i64 x0, .int .i64 x1, .int .i64 x2, .int .i64 x3, .int .u32 (((x4 + (x5 * 256)) + (x6 * 65536)) + (x7 * 16777216))]) H3_ (by kernel_rfl) ((by kernel_rfl : _ = val (aload T8 48 (.pointer (some ⟨H1_.n, 0, none⟩)) H3_) H3_).trans (val_of ((aload_at gH3_H1__n).trans (by kernel_rfl)))) ?_
  refine cf_ask 49 (.bool true) 35 #[.agg #[.int .i64 x0, .int .i64 x1, .int .i64 x2, .int .i64 x3, .int .u32 (((x4 + (x5 * 256)) + (x6 * 65536)) + (x7 * 16777216))]] (by kernel_rfl) (by kernel_rfl) (show some (Value.bool (rightV x0 x1 x2 x3 (((x4 + (x5 * 256)) + (x6 * 65536)) + (x7 * 16777216)))) = _ by rw [hr]) ?_
  refine cf_go 8 ?_
  refine cf_val 52 (.agg #[.int .i64 x0, .int .i64 x1, .int .i64 x2, .int .i64 x3, .int .u32 (((x4 + (x5 * 256)) + (x6 * 65536)) + (x7 * 16777216))]) H3_ (by kernel_rfl) ((by kernel_rfl : _ = val (aload T8 48 (.pointer (some ⟨H1_.n, 0, none⟩)) H3_) H3_).trans (val_of ((aload_at gH3_H1__n).trans (by kernel_rfl)))) ?_
  have gH3_H_n : H3_.get (H.n) = some ⟨[Value.int .i64 0, .int .i64 0, .int .i64 0, .int .i64 0, .int .u32 0], 48, false⟩ := by rw [hH3_, Heap.get_put, if_neg (by omega)]; rw [hH2_, Heap.get_push, if_neg (by omega)]; rw [hH1_]; exact (Heap.get_push _ _ _).trans (if_pos rfl)
  obtain ⟨H4_, hH4_⟩ : ∃ x : Heap, x = H3_.put (H.n) ⟨[Value.int .i64 x0, .int .i64 x1, .int .i64 x2, .int .i64 x3, .int .u32 (((x4 + (x5 * 256)) + (x6 * 65536)) + (x7 * 16777216))], 48, false⟩ := ⟨_, rfl⟩
  have nH4_ : H4_.n = H3_.n := by rw [hH4_]; rfl
  refine cf_skip H4_ (by kernel_rfl) ((by kernel_rfl : _ = skp (astore T8 48 (.pointer (some ⟨H.n, 0, none⟩)) (.agg #[.int .i64 x0, .int .i64 x1, .int .i64 x2, .int .i64 x3, .int .u32 (((x4 + (x5 * 256)) + (x6 * 65536)) + (x7 * 16777216))]) H3_)).trans (by rw [astore_to gH3_H_n (by kernel_rfl), ← hH4_]; rfl)) ?_
  refine cf_go 4 ?_
  have gH4_H_n : H4_.get (H.n) = some ⟨[Value.int .i64 x0, .int .i64 x1, .int .i64 x2, .int .i64 x3, .int .u32 (((x4 + (x5 * 256)) + (x6 * 65536)) + (x7 * 16777216))], 48, false⟩ := by rw [hH4_]; exact (Heap.get_put _ _ _ _).trans (if_pos rfl)
  refine cf_end (.tuple #[.agg #[.int .i64 x0, .int .i64 x1, .int .i64 x2, .int .i64 x3, .int .u32 (((x4 + (x5 * 256)) + (x6 * 65536)) + (x7 * 16777216))], .bool true]) H4_ (by kernel_rfl) (ares_cell1 2 48 3 (.pointer (some ⟨H.n, 0, none⟩)) H4_ (by kernel_rfl) (by kernel_rfl) (by kernel_rfl) (by kernel_rfl) ((aload_at gH4_H_n).trans (by kernel_rfl))) (by kernel_rfl) ?_
  exact ⟨rfl, ⟨by omega, fun b hb => by rw [hH4_, Heap.get_put, if_neg (by omega), hH3_, Heap.get_put, if_neg (by omega), hH2_, Heap.get_push, if_neg (by omega), hH1_, Heap.get_push, if_neg (by omega)]⟩⟩
set_option maxHeartbeats 1000000 in
theorem rdec_no {H : Heap} {A off cap : Nat} {cells : List Value} {e : TypeId} {ro : Bool} {x0 : Int} (c0 : cells[off + 0 * 1]? = some (.int .u8 x0)) (l0 : 0 ≤ x0) (m0 : x0 < 256) {x1 : Int} (c1 : cells[off + 1 * 1]? = some (.int .u8 x1)) (l1 : 0 ≤ x1) (m1 : x1 < 256) {x2 : Int} (c2 : cells[off + 2 * 1]? = some (.int .u8 x2)) (l2 : 0 ≤ x2) (m2 : x2 < 256) {x3 : Int} (c3 : cells[off + 3 * 1]? = some (.int .u8 x3)) (l3 : 0 ≤ x3) (m3 : x3 < 256) {x4 : Int} (c4 : cells[off + 4 * 1]? = some (.int .u8 x4)) (l4 : 0 ≤ x4) (m4 : x4 < 256) {x5 : Int} (c5 : cells[off + 5 * 1]? = some (.int .u8 x5)) (l5 : 0 ≤ x5) (m5 : x5 < 256) {x6 : Int} (c6 : cells[off + 6 * 1]? = some (.int .u8 x6)) (l6 : 0 ≤ x6) (m6 : x6 < 256) {x7 : Int} (c7 : cells[off + 7 * 1]? = some (.int .u8 x7)) (l7 : 0 ≤ x7) (m7 : x7 < 256) (gA : H.get A = some ⟨cells, e, ro⟩) (hA : A < H.n) (hr : rightV x0 x1 x2 x3 (((x4 + (x5 * 256)) + (x6 * 65536)) + (x7 * 16777216)) = false) : ACall Try.prog T8 30 #[.slice (some ⟨A, off, none⟩) 8 cap] H fun r H' => r = rdecR ((0, 0, 0, 0, 0), 12) ∧ Up H.n H H' := by
  refine acall_cf 53 (initTm 0 #[.slice (some ⟨A, off, none⟩) 8 cap]) rfl f30_fn f30_body rfl rfl ?_
  refine cf_go 2 ?_
  obtain ⟨H1_, hH1_⟩ : ∃ x : Heap, x = H.push ⟨[Value.int .i64 0, .int .i64 0, .int .i64 0, .int .i64 0, .int .u32 0], 48, false⟩ := ⟨_, rfl⟩
  have nH1_ : H1_.n = H.n + 1 := by rw [hH1_]; rfl
  refine cf_val 2 (.pointer (some ⟨H.n, 0, none⟩)) H1_ (by kernel_rfl) ((by kernel_rfl : _ = some (Res.val (.pointer (some ⟨H.n, 0, none⟩)), H.push ⟨[Value.int .i64 0, .int .i64 0, .int .i64 0, .int .i64 0, .int .u32 0], 48, false⟩)).trans (by rw [← hH1_])) ?_
  refine cf_go 17 ?_
  refine cf_val 10 (.pointer (some ⟨A, off + 0 * 1, none⟩)) H1_ (by kernel_rfl) (by kernel_rfl) ?_
  have gH1_A : H1_.get (A) = some ⟨cells, e, ro⟩ := by rw [hH1_, Heap.get_push, if_neg (by omega)]; exact gA
  refine cf_val 11 (.int .u8 x0) H1_ (by kernel_rfl) ((by kernel_rfl : _ = val (aload T8 5 (.pointer (some ⟨A, off + 0 * 1, none⟩)) H1_) H1_).trans (val_of ((aload_at gH1_A).trans (aloadC_cellB (n := 1) (by kernel_rfl) (by kernel_rfl) c0)))) ?_
  refine cf_go 1 ?_
  refine cf_see 12 (.int .i64 x0) (see_int (x := IntKind.i64.wrap x0) (by kernel_rfl) (w64 rfl (by omega) (by omega))) ?_
  refine cf_go 1 ?_
  refine cf_val 14 (.pointer (some ⟨A, off + 1 * 1, none⟩)) H1_ (by kernel_rfl) (by kernel_rfl) ?_
  refine cf_val 15 (.int .u8 x1) H1_ (by kernel_rfl) ((by kernel_rfl : _ = val (aload T8 5 (.pointer (some ⟨A, off + 1 * 1, none⟩)) H1_) H1_).trans (val_of ((aload_at gH1_A).trans (aloadC_cellB (n := 1) (by kernel_rfl) (by kernel_rfl) c1)))) ?_
  refine cf_go 1 ?_
  refine cf_see 16 (.int .i64 x1) (see_int (x := IntKind.i64.wrap x1) (by kernel_rfl) (w64 rfl (by omega) (by omega))) ?_
  refine cf_go 1 ?_
  refine cf_val 18 (.pointer (some ⟨A, off + 2 * 1, none⟩)) H1_ (by kernel_rfl) (by kernel_rfl) ?_
  refine cf_val 19 (.int .u8 x2) H1_ (by kernel_rfl) ((by kernel_rfl : _ = val (aload T8 5 (.pointer (some ⟨A, off + 2 * 1, none⟩)) H1_) H1_).trans (val_of ((aload_at gH1_A).trans (aloadC_cellB (n := 1) (by kernel_rfl) (by kernel_rfl) c2)))) ?_
  refine cf_go 1 ?_
  refine cf_see 20 (.int .i64 x2) (see_int (x := IntKind.i64.wrap x2) (by kernel_rfl) (w64 rfl (by omega) (by omega))) ?_
  refine cf_go 1 ?_
  refine cf_val 22 (.pointer (some ⟨A, off + 3 * 1, none⟩)) H1_ (by kernel_rfl) (by kernel_rfl) ?_
  refine cf_val 23 (.int .u8 x3) H1_ (by kernel_rfl) ((by kernel_rfl : _ = val (aload T8 5 (.pointer (some ⟨A, off + 3 * 1, none⟩)) H1_) H1_).trans (val_of ((aload_at gH1_A).trans (aloadC_cellB (n := 1) (by kernel_rfl) (by kernel_rfl) c3)))) ?_
  refine cf_go 1 ?_
  refine cf_see 24 (.int .i64 x3) (see_int (x := IntKind.i64.wrap x3) (by kernel_rfl) (w64 rfl (by omega) (by omega))) ?_
  refine cf_go 1 ?_
  refine cf_val 26 (.pointer (some ⟨A, off + 4 * 1, none⟩)) H1_ (by kernel_rfl) (by kernel_rfl) ?_
  refine cf_val 27 (.int .u8 x4) H1_ (by kernel_rfl) ((by kernel_rfl : _ = val (aload T8 5 (.pointer (some ⟨A, off + 4 * 1, none⟩)) H1_) H1_).trans (val_of ((aload_at gH1_A).trans (aloadC_cellB (n := 1) (by kernel_rfl) (by kernel_rfl) c4)))) ?_
  refine cf_go 1 ?_
  refine cf_see 28 (.int .u32 x4) (see_int (x := IntKind.u32.wrap x4) (by kernel_rfl) (wu32 rfl (by omega) (by omega))) ?_
  refine cf_go 1 ?_
  refine cf_val 30 (.pointer (some ⟨A, off + 5 * 1, none⟩)) H1_ (by kernel_rfl) (by kernel_rfl) ?_
  refine cf_val 31 (.int .u8 x5) H1_ (by kernel_rfl) ((by kernel_rfl : _ = val (aload T8 5 (.pointer (some ⟨A, off + 5 * 1, none⟩)) H1_) H1_).trans (val_of ((aload_at gH1_A).trans (aloadC_cellB (n := 1) (by kernel_rfl) (by kernel_rfl) c5)))) ?_
  refine cf_go 1 ?_
  refine cf_see 32 (.int .u32 x5) (see_int (x := IntKind.u32.wrap x5) (by kernel_rfl) (wu32 rfl (by omega) (by omega))) ?_
  refine cf_go 1 ?_
  refine cf_see 33 (.int .u32 (x5 * 256)) (see_int (x := (IntKind.u32.wrap (x5 * 256))) (by kernel_rfl) (wu32 rfl (by omega) (by omega))) ?_
  refine cf_go 1 ?_
  refine cf_see 34 (.int .u32 (x4 + (x5 * 256))) (see_int (x := (IntKind.u32.wrap (((BitVec.ofInt 32 x4 ||| BitVec.ofInt 32 (x5 * 256)).toNat : Nat) : Int))) (by kernel_rfl) (or_add2 x4 (x5 * 256) 8 (by omega) (by omega) (by omega) (by omega) (by omega) (by omega) (by omega))) ?_
  refine cf_go 1 ?_
  refine cf_val 36 (.pointer (some ⟨A, off + 6 * 1, none⟩)) H1_ (by kernel_rfl) (by kernel_rfl) ?_
  refine cf_val 37 (.int .u8 x6) H1_ (by kernel_rfl) ((by kernel_rfl : _ = val (aload T8 5 (.pointer (some ⟨A, off + 6 * 1, none⟩)) H1_) H1_).trans (val_of ((aload_at gH1_A).trans (aloadC_cellB (n := 1) (by kernel_rfl) (by kernel_rfl) c6)))) ?_
  refine cf_go 1 ?_
  refine cf_see 38 (.int .u32 x6) (see_int (x := IntKind.u32.wrap x6) (by kernel_rfl) (wu32 rfl (by omega) (by omega))) ?_
  refine cf_go 1 ?_
  refine cf_see 39 (.int .u32 (x6 * 65536)) (see_int (x := (IntKind.u32.wrap (x6 * 65536))) (by kernel_rfl) (wu32 rfl (by omega) (by omega))) ?_
  refine cf_go 1 ?_
  refine cf_see 40 (.int .u32 ((x4 + (x5 * 256)) + (x6 * 65536))) (see_int (x := (IntKind.u32.wrap (((BitVec.ofInt 32 (x4 + (x5 * 256)) ||| BitVec.ofInt 32 (x6 * 65536)).toNat : Nat) : Int))) (by kernel_rfl) (or_add2 (x4 + (x5 * 256)) (x6 * 65536) 16 (by omega) (by omega) (by omega) (by omega) (by omega) (by omega) (by omega))) ?_
  refine cf_go 1 ?_
  refine cf_val 42 (.pointer (some ⟨A, off + 7 * 1, none⟩)) H1_ (by kernel_rfl) (by kernel_rfl) ?_
  refine cf_val 43 (.int .u8 x7) H1_ (by kernel_rfl) ((by kernel_rfl : _ = val (aload T8 5 (.pointer (some ⟨A, off + 7 * 1, none⟩)) H1_) H1_).trans (val_of ((aload_at gH1_A).trans (aloadC_cellB (n := 1) (by kernel_rfl) (by kernel_rfl) c7)))) ?_
  refine cf_go 1 ?_
  refine cf_see 44 (.int .u32 x7) (see_int (x := IntKind.u32.wrap x7) (by kernel_rfl) (wu32 rfl (by omega) (by omega))) ?_
  refine cf_go 1 ?_
  refine cf_see 45 (.int .u32 (x7 * 16777216)) (see_int (x := (IntKind.u32.wrap (x7 * 16777216))) (by kernel_rfl) (wu32 rfl (by omega) (by omega))) ?_
  refine cf_go 1 ?_
  refine cf_see 46 (.int .u32 (((x4 + (x5 * 256)) + (x6 * 65536)) + (x7 * 16777216))) (see_int (x := (IntKind.u32.wrap (((BitVec.ofInt 32 ((x4 + (x5 * 256)) + (x6 * 65536)) ||| BitVec.ofInt 32 (x7 * 16777216)).toNat : Nat) : Int))) (by kernel_rfl) (or_add2 ((x4 + (x5 * 256)) + (x6 * 65536)) (x7 * 16777216) 24 (by omega) (by omega) (by omega) (by omega) (by omega) (by omega) (by omega))) ?_
  refine cf_go 1 ?_
  obtain ⟨H2_, hH2_⟩ : ∃ x : Heap, x = H1_.push ⟨[Value.int .i64 0, .int .i64 0, .int .i64 0, .int .i64 0, .int .u32 0], 48, false⟩ := ⟨_, rfl⟩
  have nH2_ : H2_.n = H1_.n + 1 := by rw [hH2_]; rfl
  refine cf_val 4 (.pointer (some ⟨H1_.n, 0, none⟩)) H2_ (by kernel_rfl) ((by kernel_rfl : _ = some (Res.val (.pointer (some ⟨H1_.n, 0, none⟩)), H1_.push ⟨[Value.int .i64 0, .int .i64 0, .int .i64 0, .int .i64 0, .int .u32 0], 48, false⟩)).trans (by rw [← hH2_])) ?_
  have gH2_H1__n : H2_.get (H1_.n) = some ⟨[Value.int .i64 0, .int .i64 0, .int .i64 0, .int .i64 0, .int .u32 0], 48, false⟩ := by rw [hH2_]; exact (Heap.get_push _ _ _).trans (if_pos rfl)
  obtain ⟨H3_, hH3_⟩ : ∃ x : Heap, x = H2_.put (H1_.n) ⟨[Value.int .i64 x0, .int .i64 x1, .int .i64 x2, .int .i64 x3, .int .u32 (((x4 + (x5 * 256)) + (x6 * 65536)) + (x7 * 16777216))], 48, false⟩ := ⟨_, rfl⟩
  have nH3_ : H3_.n = H2_.n := by rw [hH3_]; rfl
  refine cf_skip H3_ (by kernel_rfl) ((by kernel_rfl : _ = skp (astore T8 48 (.pointer (some ⟨H1_.n, 0, none⟩)) (.agg #[.int .i64 x0, .int .i64 x1, .int .i64 x2, .int .i64 x3, .int .u32 (((x4 + (x5 * 256)) + (x6 * 65536)) + (x7 * 16777216))]) H2_)).trans (by rw [astore_to gH2_H1__n (by kernel_rfl), ← hH3_]; rfl)) ?_
  refine cf_go 5 ?_
  have gH3_H1__n : H3_.get (H1_.n) = some ⟨[Value.int .i64 x0, .int .i64 x1, .int .i64 x2, .int .i64 x3, .int .u32 (((x4 + (x5 * 256)) + (x6 * 65536)) + (x7 * 16777216))], 48, false⟩ := by rw [hH3_]; exact (Heap.get_put _ _ _ _).trans (if_pos rfl)
  refine cf_val 48 (.agg #[.int .i64 x0, .int .i64 x1, .int .i64 x2, .int .i64 x3, .int .u32 (((x4 + (x5 * 256)) + (x6 * 65536)) + (x7 * 16777216))]) H3_ (by kernel_rfl) ((by kernel_rfl : _ = val (aload T8 48 (.pointer (some ⟨H1_.n, 0, none⟩)) H3_) H3_).trans (val_of ((aload_at gH3_H1__n).trans (by kernel_rfl)))) ?_
  refine cf_ask 49 (.bool false) 35 #[.agg #[.int .i64 x0, .int .i64 x1, .int .i64 x2, .int .i64 x3, .int .u32 (((x4 + (x5 * 256)) + (x6 * 65536)) + (x7 * 16777216))]] (by kernel_rfl) (by kernel_rfl) (show some (Value.bool (rightV x0 x1 x2 x3 (((x4 + (x5 * 256)) + (x6 * 65536)) + (x7 * 16777216)))) = _ by rw [hr]) ?_
  refine cf_go 7 ?_
  have gH3_H_n : H3_.get (H.n) = some ⟨[Value.int .i64 0, .int .i64 0, .int .i64 0, .int .i64 0, .int .u32 0], 48, false⟩ := by rw [hH3_, Heap.get_put, if_neg (by omega)]; rw [hH2_, Heap.get_push, if_neg (by omega)]; rw [hH1_]; exact (Heap.get_push _ _ _).trans (if_pos rfl)
  obtain ⟨H4_, hH4_⟩ : ∃ x : Heap, x = H3_.put (H.n) ⟨[Value.int .i64 0, .int .i64 0, .int .i64 0, .int .i64 0, .int .u32 0], 48, false⟩ := ⟨_, rfl⟩
  have nH4_ : H4_.n = H3_.n := by rw [hH4_]; rfl
  refine cf_skip H4_ (by kernel_rfl) ((by kernel_rfl : _ = skp (astore T8 48 (.pointer (some ⟨H.n, 0, none⟩)) (.agg #[.int .i64 0, .int .i64 0, .int .i64 0, .int .i64 0, .int .u32 0]) H3_)).trans (by rw [astore_to gH3_H_n (by kernel_rfl), ← hH4_]; rfl)) ?_
  refine cf_go 5 ?_
  have gH4_H_n : H4_.get (H.n) = some ⟨[Value.int .i64 0, .int .i64 0, .int .i64 0, .int .i64 0, .int .u32 0], 48, false⟩ := by rw [hH4_]; exact (Heap.get_put _ _ _ _).trans (if_pos rfl)
  refine cf_end (.tuple #[.agg #[.int .i64 0, .int .i64 0, .int .i64 0, .int .i64 0, .int .u32 0], .bool false]) H4_ (by kernel_rfl) (ares_cell1 2 48 3 (.pointer (some ⟨H.n, 0, none⟩)) H4_ (by kernel_rfl) (by kernel_rfl) (by kernel_rfl) (by kernel_rfl) ((aload_at gH4_H_n).trans (by kernel_rfl))) (by kernel_rfl) ?_
  exact ⟨rfl, ⟨by omega, fun b hb => by rw [hH4_, Heap.get_put, if_neg (by omega), hH3_, Heap.get_put, if_neg (by omega), hH2_, Heap.get_push, if_neg (by omega), hH1_, Heap.get_push, if_neg (by omega)]⟩⟩
theorem rdec_any {H : Heap} {v : Value} {l : List Int} (h : Byts H v l) : ACall Try.prog T8 30 #[v] H fun r H' => r = rdecR (readL l) ∧ Up H.n H H' := by
  rcases h.at_ with ⟨cap, rfl, rfl⟩ | ⟨A, off, cap, cells, e, ro, rfl, gA, hA, hb⟩
  · exact rdec_nil
  · by_cases h8 : l.length = 8
    · match l, h8 with
      | [x0, x1, x2, x3, x4, x5, x6, x7], _ =>
        obtain ⟨c0, l0, m0⟩ := hb 0 (by simp)
        obtain ⟨c1, l1, m1⟩ := hb 1 (by simp)
        obtain ⟨c2, l2, m2⟩ := hb 2 (by simp)
        obtain ⟨c3, l3, m3⟩ := hb 3 (by simp)
        obtain ⟨c4, l4, m4⟩ := hb 4 (by simp)
        obtain ⟨c5, l5, m5⟩ := hb 5 (by simp)
        obtain ⟨c6, l6, m6⟩ := hb 6 (by simp)
        obtain ⟨c7, l7, m7⟩ := hb 7 (by simp)
        simp only [List.getElem_cons_zero, List.getElem_cons_succ] at c0 l0 m0 c1 l1 m1 c2 l2 m2 c3 l3 m3 c4 l4 m4 c5 l5 m5 c6 l6 m6 c7 l7 m7
        cases hr : rightV x0 x1 x2 x3 (((x4 + (x5 * 256)) + (x6 * 65536)) + (x7 * 16777216))
        · have e : readL [x0, x1, x2, x3, x4, x5, x6, x7] = ((0, 0, 0, 0, 0), 12) := by simp only [readL, num4, hr, cond_false]
          rw [e]; exact rdec_no c0 l0 m0 c1 l1 m1 c2 l2 m2 c3 l3 m3 c4 l4 m4 c5 l5 m5 c6 l6 m6 c7 l7 m7 gA hA hr
        · have e : readL [x0, x1, x2, x3, x4, x5, x6, x7] = ((x0, x1, x2, x3, (((x4 + (x5 * 256)) + (x6 * 65536)) + (x7 * 16777216))), 0) := by simp only [readL, num4, hr, cond_true]
          rw [e]; exact rdec_ok c0 l0 m0 c1 l1 m1 c2 l2 m2 c3 l3 m3 c4 l4 m4 c5 l5 m5 c6 l6 m6 c7 l7 m7 gA hA hr
    · rw [readL_ne h8]; exact rdec_ne h8
theorem Byts.keep {H H' : Heap} {v : Value} {l : List Int} (h : Byts H v l) (hn : H.n ≤ H'.n) (hg : ∀ b, b < H.n → H'.get b = H.get b) : Byts H' v l := by
  rcases h.at_ with h | ⟨A, off, cap, cells, e, ro, h1, gA, hA, hb⟩
  · exact ⟨.inl h⟩
  · exact ⟨.inr ⟨A, off, cap, cells, e, ro, h1, by rw [hg A hA]; exact gA, by omega, hb⟩⟩
theorem byts_nil (H : Heap) (cap : Nat) : Byts H (.slice none 0 cap) [] := ⟨.inl ⟨cap, rfl, rfl⟩⟩
theorem Byts.len {H : Heap} {v : Value} {l : List Int} (h : Byts H v l) : ∃ a cap, v = .slice a l.length cap := by
  rcases h.at_ with ⟨cap, rfl, rfl⟩ | ⟨A, off, cap, cells, e, ro, rfl, gA, hA, hb⟩
  · exact ⟨_, _, rfl⟩
  · exact ⟨_, _, rfl⟩
theorem dec_to {H : Heap} {v : Value} {l : List Int} {a b c d n e : Int} (h : Byts H v l) (hd : readL l = ((a, b, c, d, n), e)) : ACall Try.prog T8 34 #[v] H fun r H' => r = .tuple #[.agg #[.int .i64 a, .int .i64 b, .int .i64 c, .int .i64 d, .int .u32 n], .int .i64 e] ∧ Up H.n H H' :=
  (dec_any h).mono fun r H' ⟨h1, h2⟩ => ⟨by rw [h1, hd]; rfl, h2⟩
theorem rdec_to {H : Heap} {v : Value} {l : List Int} {a b c d n e : Int} {k : Bool} (h : Byts H v l) (hd : readL l = ((a, b, c, d, n), e)) (hk : (e == 0) = k) : ACall Try.prog T8 30 #[v] H fun r H' => r = .tuple #[.agg #[.int .i64 a, .int .i64 b, .int .i64 c, .int .i64 d, .int .u32 n], .bool k] ∧ Up H.n H H' :=
  (rdec_any h).mono fun r H' ⟨h1, h2⟩ => ⟨by rw [h1, hd, ← hk]; rfl, h2⟩
end Hm
end Go.Proofs.Ytjhijpfbokklcaa
