/- Chapter 20: LiveLowers. -/
import Derived.Test.YtahikechkggbfaaSw
import Derived.Test.YtahikechkggbfaaEve
namespace Go.Proofs.Ytahikechkggbfaa
open Go Go.Ev Go.RowKit
set_option linter.unusedVariables false
set_option linter.unusedSimpArgs false
set_option maxRecDepth 100000
namespace Ls
def uC (x : Int) : List Value := [.int .u32 x]
theorem uC_len : ∀ x, (uC x).length = 1 := fun _ => rfl
theorem uC_pl : ∀ x, (uC x).all plain = true := fun _ => rfl
def insO (x : Int) : Int := ([1, 3, 5, 6, 16, 17, 7, 8, 4, 25, 23] : List Int).getD (Int.tmod (0 + x % (1048576 - 0 + 1)) 11).toNat 0
def insI (x y : Int) : Int × Int := (insO x, if insO x = 1 then Int.tmod y 256 else 0)
def insL (l v : List Int) (k : Nat) : List (Int × Int) := (List.range k).map fun i => insI (l.getD i 0) (v.getD i 0)
@[simp] theorem insL_len (l v : List Int) (k : Nat) : (insL l v k).length = k := by simp [insL]
theorem insL_succ (l v : List Int) (k : Nat) : insL l v (k + 1) = insL l v k ++ [insI (l.getD k 0) (v.getD k 0)] := by simp [insL, List.range_succ]
theorem insL_snoc {l v : List Int} {k : Nat} {x y : Int} {q : Int × Int} (hx : l[k]? = some x) (hy : v[k]? = some y) (h : insI x y = q) : insL l v k ++ [q] = insL l v (k + 1) := by rw [insL_succ, List.getD_eq_getElem?_getD, List.getD_eq_getElem?_getD, hx, hy]; simp [h]
theorem insL_set {l v : List Int} {k : Nat} {x y : Int} {p q : Int × Int} (hx : l[k]? = some x) (hy : v[k]? = some y) (h : insI x y = q) : (insL l v k ++ [p]).set k q = insL l v (k + 1) := by rw [← insL_snoc hx hy h]; simp
theorem insL_at (l v : List Int) (k : Nat) (q : Int × Int) : (insL l v k ++ [q])[k]? = some q := by simp
theorem tm11 (x : Int) : Int.tmod (0 + x % (1048576 - 0 + 1)) 11 = 0 ∨ Int.tmod (0 + x % (1048576 - 0 + 1)) 11 = 1 ∨ Int.tmod (0 + x % (1048576 - 0 + 1)) 11 = 2 ∨ Int.tmod (0 + x % (1048576 - 0 + 1)) 11 = 3 ∨ Int.tmod (0 + x % (1048576 - 0 + 1)) 11 = 4 ∨ Int.tmod (0 + x % (1048576 - 0 + 1)) 11 = 5 ∨ Int.tmod (0 + x % (1048576 - 0 + 1)) 11 = 6 ∨ Int.tmod (0 + x % (1048576 - 0 + 1)) 11 = 7 ∨ Int.tmod (0 + x % (1048576 - 0 + 1)) 11 = 8 ∨ Int.tmod (0 + x % (1048576 - 0 + 1)) 11 = 9 ∨ Int.tmod (0 + x % (1048576 - 0 + 1)) 11 = 10 := by rw [Int.tmod_eq_emod_of_nonneg (by omega)]; omega
theorem tmod256 {y : Int} (h : 0 ≤ y) : 0 ≤ Int.tmod y 256 ∧ Int.tmod y 256 < 256 := by rw [Int.tmod_eq_emod_of_nonneg h]; omega
theorem insO_in (x : Int) : insO x = 1 ∨ insO x = 3 ∨ insO x = 5 ∨ insO x = 6 ∨ insO x = 16 ∨ insO x = 17 ∨ insO x = 7 ∨ insO x = 8 ∨ insO x = 4 ∨ insO x = 25 ∨ insO x = 23 := by
  unfold insO
  rcases tm11 x with h | h | h | h | h | h | h | h | h | h | h <;> rw [h] <;> simp
theorem insL_in {l v : List Int} {k : Nat} (hv : ∀ y ∈ v, 0 ≤ y ∧ y < 4294967296) {i : Nat} {z : Int × Int} (h : (insL l v k)[i]? = some z) : ∃ x y, 0 ≤ y ∧ z = insI x y := by
  unfold insL at h
  rw [List.getElem?_map] at h
  cases hr : (List.range k)[i]? with
  | none => rw [hr] at h; cases h
  | some q =>
    rw [hr] at h
    refine ⟨_, _, ?_, (Option.some.inj h).symm⟩
    rw [List.getD_eq_getElem?_getD]
    cases hq : v[q]? with
    | none => exact Int.le_refl _
    | some y => exact (hv y (List.mem_of_getElem? hq)).1
theorem ins_one {x y : Int} (hy : 0 ≤ y) : rightI (insI x y).1 (insI x y).2 = true ∧ plainB (insI x y).1 = true ∧ endsB (insI x y).1 = false ∧ 0 ≤ (insI x y).2 ∧ (insI x y).2 < 4294967296 := by
  have h2 := tmod256 hy
  unfold insI
  rcases insO_in x with h | h | h | h | h | h | h | h | h | h | h <;> rw [h] <;> simp [rightI, plainB, endsB, sizeZ, namedB] <;> omega
theorem ins_ok {l v : List Int} {k : Nat} (hv : ∀ y ∈ v, 0 ≤ y ∧ y < 4294967296) (h1 : 1 ≤ k) (h8 : k ≤ 8) : OkIns (insL l v k) := ⟨by rw [insL_len]; exact h1, by rw [insL_len]; exact h8, fun i z hz => by
  obtain ⟨x, y, hy, rfl⟩ := insL_in hv hz
  obtain ⟨a, b, c, _⟩ := ins_one (x := x) hy
  exact ⟨a, b, fun _ => c⟩⟩
theorem ins_n {l v : List Int} {k : Nat} (hv : ∀ y ∈ v, 0 ≤ y ∧ y < 4294967296) : ∀ z ∈ insL l v k, 0 ≤ z.2 ∧ z.2 < 4294967296 := fun z hz => by
  obtain ⟨i, hi⟩ := List.mem_iff_getElem?.1 hz
  obtain ⟨x, y, hy, rfl⟩ := insL_in hv hi
  exact (ins_one (x := x) hy).2.2.2
theorem inC_ones : ∀ x, (inC x).all Ev.one = true := fun _ => rfl
noncomputable def f7b : Code := Try.f7.body.getD .skip
theorem f7_body : Try.f7.body = some f7b := by kernel_rfl
theorem f7_fn : T8.fn 7 = some Try.f7 := by kernel_rfl
set_option maxHeartbeats 4000000 in
theorem lowers_s {ls vs : List Int} (hr1 : ∀ x ∈ ls, Lm.i64B x = true) (hr2 : ∀ x ∈ vs, 0 ≤ x ∧ x < 4294967296) (hl1 : ls.length ≤ 9223372036854775807) (hl2 : vs.length ≤ 9223372036854775807) : SCall Try.prog T8 7 #[.slice (some ⟨0, 0, none⟩) ls.length (unk + 1), .slice (some ⟨1, 0, none⟩) vs.length (unk + 1)] (hq [some ⟨(tab inC ls), 3, true⟩, some ⟨(tab uC vs), 27, true⟩]) fun v h => v = .bool true ∧ h = hq [some ⟨(tab inC ls), 3, true⟩, some ⟨(tab uC vs), 27, true⟩] := by
  refine scall_sd 185 _ 2 kr f7_fn f7_body rfl rfl rfl fun X hX => ?_
  refine sd_run 17 ?_
  obtain ⟨N, hN⟩ : ∃ N, N = min (min ls.length vs.length) 8 := ⟨_, rfl⟩
  refine sd_loop 185 (cl (cl (cr (cl (cr (cr f7b)))))) [.blk 0, .next (cr (cr (cr f7b)))] kr kr kr (fun m9 s9 => ∃ (k : Nat), m9 = N - k ∧ (k ≤ N) ∧ s9 = ⟨tmL [(0, .slice (some ⟨0, 0, none⟩) ls.length (unk + 1)), (1, .slice (some ⟨1, 0, none⟩) vs.length (unk + 1)), (5, .slice (some ⟨2, 0, none⟩) ((insL ls vs k).length) (unk + 2)), (6, .int .i64 ((k : Nat) : Int))], hq [some ⟨(tab inC ls), 3, true⟩, some ⟨(tab uC vs), 27, true⟩, some ⟨(tab jjC (insL ls vs k)), 55, false⟩]⟩) (N - 0) _ (emOf [some 0, some 1, none]) hX ⟨0, rfl, (by omega), rfl⟩ ⟨sub_of kr kr ⟨bk_flat (tab inC ls) kr (tab_plain inC_pl _) rfl, bk_flat (tab uC vs) kr (tab_plain uC_pl _) rfl, rfl, True.intro⟩, te_of kr kr⟩ kr ?_
  rintro m9 s9 ⟨k, rfl, i1_0, rfl⟩ R1_ hR1_
  by_cases hlt : k < N
  · skip
    obtain ⟨a1, ha1⟩ : ∃ x_, (ls)[k]? = some x_ := ⟨_, List.getElem?_eq_getElem (by omega)⟩
    have ia1 := hr1 _ (List.mem_of_getElem? ha1)
    simp only [Lm.i64B, Bool.and_eq_true, decide_eq_true_eq] at ia1
    obtain ⟨a2, ha2⟩ : ∃ x_, (vs)[k]? = some x_ := ⟨_, List.getElem?_eq_getElem (by omega)⟩
    have ia2 := hr2 _ (List.mem_of_getElem? ha2)
    have hil := insL_len ls vs k
    refine sd_run 7 ?_
    refine sd_see 18 (.bool true) (see_bool kr ((decide_eq_true (by omega)) : ((decide (((k : Nat) : Int) < ((ls.length : Nat) : Int)))) = true)) ?_
    refine sd_run 5 ?_
    refine sd_see 23 (.bool true) (see_bool kr ((decide_eq_true (by omega)) : ((decide (((k : Nat) : Int) < ((vs.length : Nat) : Int)))) = true)) ?_
    refine sd_run 4 ?_
    refine sd_see 27 (.bool true) (see_bool kr ((decide_eq_true (by omega)) : ((decide (((k : Nat) : Int) < 8))) = true)) ?_
    refine sd_run 14 ?_
    refine sd_ix 35 (.pointer (some ⟨0, 0 + k * 1, none⟩)) k ls.length kr kr kr (by first | omega | (simp; done) | (simp; omega)) ?_
    refine sd_ld 36 (.int .i64 a1) 3 (.pointer (some ⟨0, 0 + k * 1, none⟩)) kr kr kr (ld_cell (l := ls) (e := 3) (ro := true) (k := k) (j := 0) inC_len kr kr kr ha1 rfl) ?_
    refine sd_ask 37 (.int .i64 (0 + a1 % (1048576 - 0 + 1))) 12 #[.int .i64 a1, .int .i64 0, .int .i64 1048576] kr kr kr (Lm.orc12 a1 0 1048576 (by simp only [Lm.inB, Bool.and_eq_true, decide_eq_true_eq]; omega)) ?_
    rcases tm11 a1 with hm | hm | hm | hm | hm | hm | hm | hm | hm | hm | hm
    · skip
      refine sd_run 1 ?_
      refine sd_see 38 (.int .i64 0) (see_int (x := (Int.tmod (0 + a1 % (1048576 - 0 + 1)) 11)) kr hm) ?_
      refine sd_run 4 ?_
      refine sd_grow 43 53 53 55 1 15 2 ((insL ls vs k).length) 1 5 (.slice (some ⟨4, 0, none⟩) 1 1) (tab jjC (insL ls vs k)) [Value.int .i64 1, .int .u32 0] (tab jjC (insL ls vs k ++ [(1, 0)])) kr kr kr kr kr ((tab_len jjC_len _).trans (by first | rfl | (simp only [List.length_append, List.length_cons, List.length_nil, List.length_set] at *; done))) kr kr (by decide) kr (by omega) kr (tab_snoc (insL ls vs k) (1, 0)) ?_
      refine sd_see 43 (.slice (some ⟨5, 0, none⟩) ((insL ls vs k ++ [(1, 0)]).length) (unk + 2)) (see_len (n := ((insL ls vs k).length + 1)) kr (by simp)) ?_
      refine sd_run 7 ?_
      refine sd_ix 46 (.pointer (some ⟨5, 0 + k * 2, none⟩)) k ((insL ls vs k ++ [(1, 0)]).length) kr kr kr (by first | omega | (simp; done) | (simp; omega)) ?_
      refine sd_run 1 ?_
      refine sd_ld 48 (.int .i64 (1, 0).1) 3 (.pointer (some ⟨5, 0 + k * 2, none⟩)) kr kr kr (ld_cell (l := (insL ls vs k ++ [(1, 0)])) (e := 55) (ro := false) (k := k) (j := 0) jjC_len kr kr kr (insL_at ls vs k (1, 0)) rfl) ?_
      refine sd_see 48 (.int .i64 1) (see_int (x := (1, 0).1) kr rfl) ?_
      refine sd_run 9 ?_
      refine sd_ix 54 (.pointer (some ⟨1, 0 + k * 1, none⟩)) k vs.length kr kr kr (by first | omega | (simp; done) | (simp; omega)) ?_
      refine sd_ld 55 (.int .u32 a2) 27 (.pointer (some ⟨1, 0 + k * 1, none⟩)) kr kr kr (ld_cell (l := vs) (e := 27) (ro := true) (k := k) (j := 0) uC_len kr kr kr ha2 rfl) ?_
      refine sd_run 1 ?_
      refine sd_ix 57 (.pointer (some ⟨5, 0 + k * 2, none⟩)) k ((insL ls vs k ++ [(1, 0)]).length) kr kr kr (by first | omega | (simp; done) | (simp; omega)) ?_
      refine sd_run 1 ?_
      refine sd_st 27 5 (0 + k * 2 + 1) (.int .u32 (Int.tmod a2 256)) (tab jjC (((insL ls vs k ++ [(1, 0)])).set k ((1, 0).1, (Int.tmod a2 256)))) (cells := tab jjC (insL ls vs k ++ [(1, 0)])) (e := 55) kr kr kr kr (st_cell (k := k) (j := 1) (a' := ((1, 0).1, (Int.tmod a2 256))) jjC_len kr kr (insL_at ls vs k (1, 0)) kr rfl) ?_
      refine sd_run 6 ?_
      refine sd_see 30 (.int .i64 ((k + 1 : Nat) : Int)) (see_int (x := (IntKind.i64.wrap (((k : Nat) : Int) + 1))) kr (w64 (by omega) (by omega) (by omega))) ?_
      refine sd_run 2 ?_
      refine sd_see 5 (.slice (some ⟨5, 0, none⟩) ((insL ls vs (k + 1)).length) (unk + 2)) (see_len (n := (insL ls vs k ++ [(1, 0)]).length) kr (by simp)) ?_
      refine sd_inv R1_ kr (hR1_ _ (N - (k + 1)) _ (emOf [some 0, some 1, some 5]) (by omega) ⟨k + 1, rfl, (by omega), rfl⟩ ⟨sub_of kr kr ⟨bk_flat (tab inC ls) kr (tab_plain inC_pl _) rfl, bk_flat (tab uC vs) kr (tab_plain uC_pl _) rfl, bk_flat (tab jjC (((insL ls vs k ++ [(1, 0)])).set k ((1, 0).1, (Int.tmod a2 256)))) kr (tab_plain jjC_pl _) (congrArg (tab jjC) (insL_set ha1 ha2 (by unfold insI insO; rw [hm]; rfl))), True.intro⟩, te_of kr kr⟩ kr)
    · skip
      refine sd_run 1 ?_
      refine sd_see 38 (.int .i64 1) (see_int (x := (Int.tmod (0 + a1 % (1048576 - 0 + 1)) 11)) kr hm) ?_
      refine sd_run 4 ?_
      refine sd_grow 43 53 53 55 1 15 2 ((insL ls vs k).length) 1 5 (.slice (some ⟨4, 0, none⟩) 1 1) (tab jjC (insL ls vs k)) [Value.int .i64 3, .int .u32 0] (tab jjC (insL ls vs k ++ [(3, 0)])) kr kr kr kr kr ((tab_len jjC_len _).trans (by first | rfl | (simp only [List.length_append, List.length_cons, List.length_nil, List.length_set] at *; done))) kr kr (by decide) kr (by omega) kr (tab_snoc (insL ls vs k) (3, 0)) ?_
      refine sd_see 43 (.slice (some ⟨5, 0, none⟩) ((insL ls vs k ++ [(3, 0)]).length) (unk + 2)) (see_len (n := ((insL ls vs k).length + 1)) kr (by simp)) ?_
      refine sd_run 7 ?_
      refine sd_ix 46 (.pointer (some ⟨5, 0 + k * 2, none⟩)) k ((insL ls vs k ++ [(3, 0)]).length) kr kr kr (by first | omega | (simp; done) | (simp; omega)) ?_
      refine sd_run 1 ?_
      refine sd_ld 48 (.int .i64 (3, 0).1) 3 (.pointer (some ⟨5, 0 + k * 2, none⟩)) kr kr kr (ld_cell (l := (insL ls vs k ++ [(3, 0)])) (e := 55) (ro := false) (k := k) (j := 0) jjC_len kr kr kr (insL_at ls vs k (3, 0)) rfl) ?_
      refine sd_see 48 (.int .i64 3) (see_int (x := (3, 0).1) kr rfl) ?_
      refine sd_run 10 ?_
      refine sd_see 30 (.int .i64 ((k + 1 : Nat) : Int)) (see_int (x := (IntKind.i64.wrap (((k : Nat) : Int) + 1))) kr (w64 (by omega) (by omega) (by omega))) ?_
      refine sd_run 2 ?_
      refine sd_see 5 (.slice (some ⟨5, 0, none⟩) ((insL ls vs (k + 1)).length) (unk + 2)) (see_len (n := (insL ls vs k ++ [(3, 0)]).length) kr (by simp)) ?_
      refine sd_inv R1_ kr (hR1_ _ (N - (k + 1)) _ (emOf [some 0, some 1, some 5]) (by omega) ⟨k + 1, rfl, (by omega), rfl⟩ ⟨sub_of kr kr ⟨bk_flat (tab inC ls) kr (tab_plain inC_pl _) rfl, bk_flat (tab uC vs) kr (tab_plain uC_pl _) rfl, bk_flat (tab jjC (insL ls vs k ++ [(3, 0)])) kr (tab_plain jjC_pl _) (congrArg (tab jjC) (insL_snoc ha1 ha2 (by unfold insI insO; rw [hm]; rfl))), True.intro⟩, te_of kr kr⟩ kr)
    · skip
      refine sd_run 1 ?_
      refine sd_see 38 (.int .i64 2) (see_int (x := (Int.tmod (0 + a1 % (1048576 - 0 + 1)) 11)) kr hm) ?_
      refine sd_run 4 ?_
      refine sd_grow 43 53 53 55 1 15 2 ((insL ls vs k).length) 1 5 (.slice (some ⟨4, 0, none⟩) 1 1) (tab jjC (insL ls vs k)) [Value.int .i64 5, .int .u32 0] (tab jjC (insL ls vs k ++ [(5, 0)])) kr kr kr kr kr ((tab_len jjC_len _).trans (by first | rfl | (simp only [List.length_append, List.length_cons, List.length_nil, List.length_set] at *; done))) kr kr (by decide) kr (by omega) kr (tab_snoc (insL ls vs k) (5, 0)) ?_
      refine sd_see 43 (.slice (some ⟨5, 0, none⟩) ((insL ls vs k ++ [(5, 0)]).length) (unk + 2)) (see_len (n := ((insL ls vs k).length + 1)) kr (by simp)) ?_
      refine sd_run 7 ?_
      refine sd_ix 46 (.pointer (some ⟨5, 0 + k * 2, none⟩)) k ((insL ls vs k ++ [(5, 0)]).length) kr kr kr (by first | omega | (simp; done) | (simp; omega)) ?_
      refine sd_run 1 ?_
      refine sd_ld 48 (.int .i64 (5, 0).1) 3 (.pointer (some ⟨5, 0 + k * 2, none⟩)) kr kr kr (ld_cell (l := (insL ls vs k ++ [(5, 0)])) (e := 55) (ro := false) (k := k) (j := 0) jjC_len kr kr kr (insL_at ls vs k (5, 0)) rfl) ?_
      refine sd_see 48 (.int .i64 5) (see_int (x := (5, 0).1) kr rfl) ?_
      refine sd_run 10 ?_
      refine sd_see 30 (.int .i64 ((k + 1 : Nat) : Int)) (see_int (x := (IntKind.i64.wrap (((k : Nat) : Int) + 1))) kr (w64 (by omega) (by omega) (by omega))) ?_
      refine sd_run 2 ?_
      refine sd_see 5 (.slice (some ⟨5, 0, none⟩) ((insL ls vs (k + 1)).length) (unk + 2)) (see_len (n := (insL ls vs k ++ [(5, 0)]).length) kr (by simp)) ?_
      refine sd_inv R1_ kr (hR1_ _ (N - (k + 1)) _ (emOf [some 0, some 1, some 5]) (by omega) ⟨k + 1, rfl, (by omega), rfl⟩ ⟨sub_of kr kr ⟨bk_flat (tab inC ls) kr (tab_plain inC_pl _) rfl, bk_flat (tab uC vs) kr (tab_plain uC_pl _) rfl, bk_flat (tab jjC (insL ls vs k ++ [(5, 0)])) kr (tab_plain jjC_pl _) (congrArg (tab jjC) (insL_snoc ha1 ha2 (by unfold insI insO; rw [hm]; rfl))), True.intro⟩, te_of kr kr⟩ kr)
    · skip
      refine sd_run 1 ?_
      refine sd_see 38 (.int .i64 3) (see_int (x := (Int.tmod (0 + a1 % (1048576 - 0 + 1)) 11)) kr hm) ?_
      refine sd_run 4 ?_
      refine sd_grow 43 53 53 55 1 15 2 ((insL ls vs k).length) 1 5 (.slice (some ⟨4, 0, none⟩) 1 1) (tab jjC (insL ls vs k)) [Value.int .i64 6, .int .u32 0] (tab jjC (insL ls vs k ++ [(6, 0)])) kr kr kr kr kr ((tab_len jjC_len _).trans (by first | rfl | (simp only [List.length_append, List.length_cons, List.length_nil, List.length_set] at *; done))) kr kr (by decide) kr (by omega) kr (tab_snoc (insL ls vs k) (6, 0)) ?_
      refine sd_see 43 (.slice (some ⟨5, 0, none⟩) ((insL ls vs k ++ [(6, 0)]).length) (unk + 2)) (see_len (n := ((insL ls vs k).length + 1)) kr (by simp)) ?_
      refine sd_run 7 ?_
      refine sd_ix 46 (.pointer (some ⟨5, 0 + k * 2, none⟩)) k ((insL ls vs k ++ [(6, 0)]).length) kr kr kr (by first | omega | (simp; done) | (simp; omega)) ?_
      refine sd_run 1 ?_
      refine sd_ld 48 (.int .i64 (6, 0).1) 3 (.pointer (some ⟨5, 0 + k * 2, none⟩)) kr kr kr (ld_cell (l := (insL ls vs k ++ [(6, 0)])) (e := 55) (ro := false) (k := k) (j := 0) jjC_len kr kr kr (insL_at ls vs k (6, 0)) rfl) ?_
      refine sd_see 48 (.int .i64 6) (see_int (x := (6, 0).1) kr rfl) ?_
      refine sd_run 10 ?_
      refine sd_see 30 (.int .i64 ((k + 1 : Nat) : Int)) (see_int (x := (IntKind.i64.wrap (((k : Nat) : Int) + 1))) kr (w64 (by omega) (by omega) (by omega))) ?_
      refine sd_run 2 ?_
      refine sd_see 5 (.slice (some ⟨5, 0, none⟩) ((insL ls vs (k + 1)).length) (unk + 2)) (see_len (n := (insL ls vs k ++ [(6, 0)]).length) kr (by simp)) ?_
      refine sd_inv R1_ kr (hR1_ _ (N - (k + 1)) _ (emOf [some 0, some 1, some 5]) (by omega) ⟨k + 1, rfl, (by omega), rfl⟩ ⟨sub_of kr kr ⟨bk_flat (tab inC ls) kr (tab_plain inC_pl _) rfl, bk_flat (tab uC vs) kr (tab_plain uC_pl _) rfl, bk_flat (tab jjC (insL ls vs k ++ [(6, 0)])) kr (tab_plain jjC_pl _) (congrArg (tab jjC) (insL_snoc ha1 ha2 (by unfold insI insO; rw [hm]; rfl))), True.intro⟩, te_of kr kr⟩ kr)
    · skip
      refine sd_run 1 ?_
      refine sd_see 38 (.int .i64 4) (see_int (x := (Int.tmod (0 + a1 % (1048576 - 0 + 1)) 11)) kr hm) ?_
      refine sd_run 4 ?_
      refine sd_grow 43 53 53 55 1 15 2 ((insL ls vs k).length) 1 5 (.slice (some ⟨4, 0, none⟩) 1 1) (tab jjC (insL ls vs k)) [Value.int .i64 16, .int .u32 0] (tab jjC (insL ls vs k ++ [(16, 0)])) kr kr kr kr kr ((tab_len jjC_len _).trans (by first | rfl | (simp only [List.length_append, List.length_cons, List.length_nil, List.length_set] at *; done))) kr kr (by decide) kr (by omega) kr (tab_snoc (insL ls vs k) (16, 0)) ?_
      refine sd_see 43 (.slice (some ⟨5, 0, none⟩) ((insL ls vs k ++ [(16, 0)]).length) (unk + 2)) (see_len (n := ((insL ls vs k).length + 1)) kr (by simp)) ?_
      refine sd_run 7 ?_
      refine sd_ix 46 (.pointer (some ⟨5, 0 + k * 2, none⟩)) k ((insL ls vs k ++ [(16, 0)]).length) kr kr kr (by first | omega | (simp; done) | (simp; omega)) ?_
      refine sd_run 1 ?_
      refine sd_ld 48 (.int .i64 (16, 0).1) 3 (.pointer (some ⟨5, 0 + k * 2, none⟩)) kr kr kr (ld_cell (l := (insL ls vs k ++ [(16, 0)])) (e := 55) (ro := false) (k := k) (j := 0) jjC_len kr kr kr (insL_at ls vs k (16, 0)) rfl) ?_
      refine sd_see 48 (.int .i64 16) (see_int (x := (16, 0).1) kr rfl) ?_
      refine sd_run 10 ?_
      refine sd_see 30 (.int .i64 ((k + 1 : Nat) : Int)) (see_int (x := (IntKind.i64.wrap (((k : Nat) : Int) + 1))) kr (w64 (by omega) (by omega) (by omega))) ?_
      refine sd_run 2 ?_
      refine sd_see 5 (.slice (some ⟨5, 0, none⟩) ((insL ls vs (k + 1)).length) (unk + 2)) (see_len (n := (insL ls vs k ++ [(16, 0)]).length) kr (by simp)) ?_
      refine sd_inv R1_ kr (hR1_ _ (N - (k + 1)) _ (emOf [some 0, some 1, some 5]) (by omega) ⟨k + 1, rfl, (by omega), rfl⟩ ⟨sub_of kr kr ⟨bk_flat (tab inC ls) kr (tab_plain inC_pl _) rfl, bk_flat (tab uC vs) kr (tab_plain uC_pl _) rfl, bk_flat (tab jjC (insL ls vs k ++ [(16, 0)])) kr (tab_plain jjC_pl _) (congrArg (tab jjC) (insL_snoc ha1 ha2 (by unfold insI insO; rw [hm]; rfl))), True.intro⟩, te_of kr kr⟩ kr)
    · skip
      refine sd_run 1 ?_
      refine sd_see 38 (.int .i64 5) (see_int (x := (Int.tmod (0 + a1 % (1048576 - 0 + 1)) 11)) kr hm) ?_
      refine sd_run 4 ?_
      refine sd_grow 43 53 53 55 1 15 2 ((insL ls vs k).length) 1 5 (.slice (some ⟨4, 0, none⟩) 1 1) (tab jjC (insL ls vs k)) [Value.int .i64 17, .int .u32 0] (tab jjC (insL ls vs k ++ [(17, 0)])) kr kr kr kr kr ((tab_len jjC_len _).trans (by first | rfl | (simp only [List.length_append, List.length_cons, List.length_nil, List.length_set] at *; done))) kr kr (by decide) kr (by omega) kr (tab_snoc (insL ls vs k) (17, 0)) ?_
      refine sd_see 43 (.slice (some ⟨5, 0, none⟩) ((insL ls vs k ++ [(17, 0)]).length) (unk + 2)) (see_len (n := ((insL ls vs k).length + 1)) kr (by simp)) ?_
      refine sd_run 7 ?_
      refine sd_ix 46 (.pointer (some ⟨5, 0 + k * 2, none⟩)) k ((insL ls vs k ++ [(17, 0)]).length) kr kr kr (by first | omega | (simp; done) | (simp; omega)) ?_
      refine sd_run 1 ?_
      refine sd_ld 48 (.int .i64 (17, 0).1) 3 (.pointer (some ⟨5, 0 + k * 2, none⟩)) kr kr kr (ld_cell (l := (insL ls vs k ++ [(17, 0)])) (e := 55) (ro := false) (k := k) (j := 0) jjC_len kr kr kr (insL_at ls vs k (17, 0)) rfl) ?_
      refine sd_see 48 (.int .i64 17) (see_int (x := (17, 0).1) kr rfl) ?_
      refine sd_run 10 ?_
      refine sd_see 30 (.int .i64 ((k + 1 : Nat) : Int)) (see_int (x := (IntKind.i64.wrap (((k : Nat) : Int) + 1))) kr (w64 (by omega) (by omega) (by omega))) ?_
      refine sd_run 2 ?_
      refine sd_see 5 (.slice (some ⟨5, 0, none⟩) ((insL ls vs (k + 1)).length) (unk + 2)) (see_len (n := (insL ls vs k ++ [(17, 0)]).length) kr (by simp)) ?_
      refine sd_inv R1_ kr (hR1_ _ (N - (k + 1)) _ (emOf [some 0, some 1, some 5]) (by omega) ⟨k + 1, rfl, (by omega), rfl⟩ ⟨sub_of kr kr ⟨bk_flat (tab inC ls) kr (tab_plain inC_pl _) rfl, bk_flat (tab uC vs) kr (tab_plain uC_pl _) rfl, bk_flat (tab jjC (insL ls vs k ++ [(17, 0)])) kr (tab_plain jjC_pl _) (congrArg (tab jjC) (insL_snoc ha1 ha2 (by unfold insI insO; rw [hm]; rfl))), True.intro⟩, te_of kr kr⟩ kr)
    · skip
      refine sd_run 1 ?_
      refine sd_see 38 (.int .i64 6) (see_int (x := (Int.tmod (0 + a1 % (1048576 - 0 + 1)) 11)) kr hm) ?_
      refine sd_run 4 ?_
      refine sd_grow 43 53 53 55 1 15 2 ((insL ls vs k).length) 1 5 (.slice (some ⟨4, 0, none⟩) 1 1) (tab jjC (insL ls vs k)) [Value.int .i64 7, .int .u32 0] (tab jjC (insL ls vs k ++ [(7, 0)])) kr kr kr kr kr ((tab_len jjC_len _).trans (by first | rfl | (simp only [List.length_append, List.length_cons, List.length_nil, List.length_set] at *; done))) kr kr (by decide) kr (by omega) kr (tab_snoc (insL ls vs k) (7, 0)) ?_
      refine sd_see 43 (.slice (some ⟨5, 0, none⟩) ((insL ls vs k ++ [(7, 0)]).length) (unk + 2)) (see_len (n := ((insL ls vs k).length + 1)) kr (by simp)) ?_
      refine sd_run 7 ?_
      refine sd_ix 46 (.pointer (some ⟨5, 0 + k * 2, none⟩)) k ((insL ls vs k ++ [(7, 0)]).length) kr kr kr (by first | omega | (simp; done) | (simp; omega)) ?_
      refine sd_run 1 ?_
      refine sd_ld 48 (.int .i64 (7, 0).1) 3 (.pointer (some ⟨5, 0 + k * 2, none⟩)) kr kr kr (ld_cell (l := (insL ls vs k ++ [(7, 0)])) (e := 55) (ro := false) (k := k) (j := 0) jjC_len kr kr kr (insL_at ls vs k (7, 0)) rfl) ?_
      refine sd_see 48 (.int .i64 7) (see_int (x := (7, 0).1) kr rfl) ?_
      refine sd_run 10 ?_
      refine sd_see 30 (.int .i64 ((k + 1 : Nat) : Int)) (see_int (x := (IntKind.i64.wrap (((k : Nat) : Int) + 1))) kr (w64 (by omega) (by omega) (by omega))) ?_
      refine sd_run 2 ?_
      refine sd_see 5 (.slice (some ⟨5, 0, none⟩) ((insL ls vs (k + 1)).length) (unk + 2)) (see_len (n := (insL ls vs k ++ [(7, 0)]).length) kr (by simp)) ?_
      refine sd_inv R1_ kr (hR1_ _ (N - (k + 1)) _ (emOf [some 0, some 1, some 5]) (by omega) ⟨k + 1, rfl, (by omega), rfl⟩ ⟨sub_of kr kr ⟨bk_flat (tab inC ls) kr (tab_plain inC_pl _) rfl, bk_flat (tab uC vs) kr (tab_plain uC_pl _) rfl, bk_flat (tab jjC (insL ls vs k ++ [(7, 0)])) kr (tab_plain jjC_pl _) (congrArg (tab jjC) (insL_snoc ha1 ha2 (by unfold insI insO; rw [hm]; rfl))), True.intro⟩, te_of kr kr⟩ kr)
    · skip
      refine sd_run 1 ?_
      refine sd_see 38 (.int .i64 7) (see_int (x := (Int.tmod (0 + a1 % (1048576 - 0 + 1)) 11)) kr hm) ?_
      refine sd_run 4 ?_
      refine sd_grow 43 53 53 55 1 15 2 ((insL ls vs k).length) 1 5 (.slice (some ⟨4, 0, none⟩) 1 1) (tab jjC (insL ls vs k)) [Value.int .i64 8, .int .u32 0] (tab jjC (insL ls vs k ++ [(8, 0)])) kr kr kr kr kr ((tab_len jjC_len _).trans (by first | rfl | (simp only [List.length_append, List.length_cons, List.length_nil, List.length_set] at *; done))) kr kr (by decide) kr (by omega) kr (tab_snoc (insL ls vs k) (8, 0)) ?_
      refine sd_see 43 (.slice (some ⟨5, 0, none⟩) ((insL ls vs k ++ [(8, 0)]).length) (unk + 2)) (see_len (n := ((insL ls vs k).length + 1)) kr (by simp)) ?_
      refine sd_run 7 ?_
      refine sd_ix 46 (.pointer (some ⟨5, 0 + k * 2, none⟩)) k ((insL ls vs k ++ [(8, 0)]).length) kr kr kr (by first | omega | (simp; done) | (simp; omega)) ?_
      refine sd_run 1 ?_
      refine sd_ld 48 (.int .i64 (8, 0).1) 3 (.pointer (some ⟨5, 0 + k * 2, none⟩)) kr kr kr (ld_cell (l := (insL ls vs k ++ [(8, 0)])) (e := 55) (ro := false) (k := k) (j := 0) jjC_len kr kr kr (insL_at ls vs k (8, 0)) rfl) ?_
      refine sd_see 48 (.int .i64 8) (see_int (x := (8, 0).1) kr rfl) ?_
      refine sd_run 10 ?_
      refine sd_see 30 (.int .i64 ((k + 1 : Nat) : Int)) (see_int (x := (IntKind.i64.wrap (((k : Nat) : Int) + 1))) kr (w64 (by omega) (by omega) (by omega))) ?_
      refine sd_run 2 ?_
      refine sd_see 5 (.slice (some ⟨5, 0, none⟩) ((insL ls vs (k + 1)).length) (unk + 2)) (see_len (n := (insL ls vs k ++ [(8, 0)]).length) kr (by simp)) ?_
      refine sd_inv R1_ kr (hR1_ _ (N - (k + 1)) _ (emOf [some 0, some 1, some 5]) (by omega) ⟨k + 1, rfl, (by omega), rfl⟩ ⟨sub_of kr kr ⟨bk_flat (tab inC ls) kr (tab_plain inC_pl _) rfl, bk_flat (tab uC vs) kr (tab_plain uC_pl _) rfl, bk_flat (tab jjC (insL ls vs k ++ [(8, 0)])) kr (tab_plain jjC_pl _) (congrArg (tab jjC) (insL_snoc ha1 ha2 (by unfold insI insO; rw [hm]; rfl))), True.intro⟩, te_of kr kr⟩ kr)
    · skip
      refine sd_run 1 ?_
      refine sd_see 38 (.int .i64 8) (see_int (x := (Int.tmod (0 + a1 % (1048576 - 0 + 1)) 11)) kr hm) ?_
      refine sd_run 4 ?_
      refine sd_grow 43 53 53 55 1 15 2 ((insL ls vs k).length) 1 5 (.slice (some ⟨4, 0, none⟩) 1 1) (tab jjC (insL ls vs k)) [Value.int .i64 4, .int .u32 0] (tab jjC (insL ls vs k ++ [(4, 0)])) kr kr kr kr kr ((tab_len jjC_len _).trans (by first | rfl | (simp only [List.length_append, List.length_cons, List.length_nil, List.length_set] at *; done))) kr kr (by decide) kr (by omega) kr (tab_snoc (insL ls vs k) (4, 0)) ?_
      refine sd_see 43 (.slice (some ⟨5, 0, none⟩) ((insL ls vs k ++ [(4, 0)]).length) (unk + 2)) (see_len (n := ((insL ls vs k).length + 1)) kr (by simp)) ?_
      refine sd_run 7 ?_
      refine sd_ix 46 (.pointer (some ⟨5, 0 + k * 2, none⟩)) k ((insL ls vs k ++ [(4, 0)]).length) kr kr kr (by first | omega | (simp; done) | (simp; omega)) ?_
      refine sd_run 1 ?_
      refine sd_ld 48 (.int .i64 (4, 0).1) 3 (.pointer (some ⟨5, 0 + k * 2, none⟩)) kr kr kr (ld_cell (l := (insL ls vs k ++ [(4, 0)])) (e := 55) (ro := false) (k := k) (j := 0) jjC_len kr kr kr (insL_at ls vs k (4, 0)) rfl) ?_
      refine sd_see 48 (.int .i64 4) (see_int (x := (4, 0).1) kr rfl) ?_
      refine sd_run 10 ?_
      refine sd_see 30 (.int .i64 ((k + 1 : Nat) : Int)) (see_int (x := (IntKind.i64.wrap (((k : Nat) : Int) + 1))) kr (w64 (by omega) (by omega) (by omega))) ?_
      refine sd_run 2 ?_
      refine sd_see 5 (.slice (some ⟨5, 0, none⟩) ((insL ls vs (k + 1)).length) (unk + 2)) (see_len (n := (insL ls vs k ++ [(4, 0)]).length) kr (by simp)) ?_
      refine sd_inv R1_ kr (hR1_ _ (N - (k + 1)) _ (emOf [some 0, some 1, some 5]) (by omega) ⟨k + 1, rfl, (by omega), rfl⟩ ⟨sub_of kr kr ⟨bk_flat (tab inC ls) kr (tab_plain inC_pl _) rfl, bk_flat (tab uC vs) kr (tab_plain uC_pl _) rfl, bk_flat (tab jjC (insL ls vs k ++ [(4, 0)])) kr (tab_plain jjC_pl _) (congrArg (tab jjC) (insL_snoc ha1 ha2 (by unfold insI insO; rw [hm]; rfl))), True.intro⟩, te_of kr kr⟩ kr)
    · skip
      refine sd_run 1 ?_
      refine sd_see 38 (.int .i64 9) (see_int (x := (Int.tmod (0 + a1 % (1048576 - 0 + 1)) 11)) kr hm) ?_
      refine sd_run 4 ?_
      refine sd_grow 43 53 53 55 1 15 2 ((insL ls vs k).length) 1 5 (.slice (some ⟨4, 0, none⟩) 1 1) (tab jjC (insL ls vs k)) [Value.int .i64 25, .int .u32 0] (tab jjC (insL ls vs k ++ [(25, 0)])) kr kr kr kr kr ((tab_len jjC_len _).trans (by first | rfl | (simp only [List.length_append, List.length_cons, List.length_nil, List.length_set] at *; done))) kr kr (by decide) kr (by omega) kr (tab_snoc (insL ls vs k) (25, 0)) ?_
      refine sd_see 43 (.slice (some ⟨5, 0, none⟩) ((insL ls vs k ++ [(25, 0)]).length) (unk + 2)) (see_len (n := ((insL ls vs k).length + 1)) kr (by simp)) ?_
      refine sd_run 7 ?_
      refine sd_ix 46 (.pointer (some ⟨5, 0 + k * 2, none⟩)) k ((insL ls vs k ++ [(25, 0)]).length) kr kr kr (by first | omega | (simp; done) | (simp; omega)) ?_
      refine sd_run 1 ?_
      refine sd_ld 48 (.int .i64 (25, 0).1) 3 (.pointer (some ⟨5, 0 + k * 2, none⟩)) kr kr kr (ld_cell (l := (insL ls vs k ++ [(25, 0)])) (e := 55) (ro := false) (k := k) (j := 0) jjC_len kr kr kr (insL_at ls vs k (25, 0)) rfl) ?_
      refine sd_see 48 (.int .i64 25) (see_int (x := (25, 0).1) kr rfl) ?_
      refine sd_run 10 ?_
      refine sd_see 30 (.int .i64 ((k + 1 : Nat) : Int)) (see_int (x := (IntKind.i64.wrap (((k : Nat) : Int) + 1))) kr (w64 (by omega) (by omega) (by omega))) ?_
      refine sd_run 2 ?_
      refine sd_see 5 (.slice (some ⟨5, 0, none⟩) ((insL ls vs (k + 1)).length) (unk + 2)) (see_len (n := (insL ls vs k ++ [(25, 0)]).length) kr (by simp)) ?_
      refine sd_inv R1_ kr (hR1_ _ (N - (k + 1)) _ (emOf [some 0, some 1, some 5]) (by omega) ⟨k + 1, rfl, (by omega), rfl⟩ ⟨sub_of kr kr ⟨bk_flat (tab inC ls) kr (tab_plain inC_pl _) rfl, bk_flat (tab uC vs) kr (tab_plain uC_pl _) rfl, bk_flat (tab jjC (insL ls vs k ++ [(25, 0)])) kr (tab_plain jjC_pl _) (congrArg (tab jjC) (insL_snoc ha1 ha2 (by unfold insI insO; rw [hm]; rfl))), True.intro⟩, te_of kr kr⟩ kr)
    · skip
      refine sd_run 1 ?_
      refine sd_see 38 (.int .i64 10) (see_int (x := (Int.tmod (0 + a1 % (1048576 - 0 + 1)) 11)) kr hm) ?_
      refine sd_run 4 ?_
      refine sd_grow 43 53 53 55 1 15 2 ((insL ls vs k).length) 1 5 (.slice (some ⟨4, 0, none⟩) 1 1) (tab jjC (insL ls vs k)) [Value.int .i64 23, .int .u32 0] (tab jjC (insL ls vs k ++ [(23, 0)])) kr kr kr kr kr ((tab_len jjC_len _).trans (by first | rfl | (simp only [List.length_append, List.length_cons, List.length_nil, List.length_set] at *; done))) kr kr (by decide) kr (by omega) kr (tab_snoc (insL ls vs k) (23, 0)) ?_
      refine sd_see 43 (.slice (some ⟨5, 0, none⟩) ((insL ls vs k ++ [(23, 0)]).length) (unk + 2)) (see_len (n := ((insL ls vs k).length + 1)) kr (by simp)) ?_
      refine sd_run 7 ?_
      refine sd_ix 46 (.pointer (some ⟨5, 0 + k * 2, none⟩)) k ((insL ls vs k ++ [(23, 0)]).length) kr kr kr (by first | omega | (simp; done) | (simp; omega)) ?_
      refine sd_run 1 ?_
      refine sd_ld 48 (.int .i64 (23, 0).1) 3 (.pointer (some ⟨5, 0 + k * 2, none⟩)) kr kr kr (ld_cell (l := (insL ls vs k ++ [(23, 0)])) (e := 55) (ro := false) (k := k) (j := 0) jjC_len kr kr kr (insL_at ls vs k (23, 0)) rfl) ?_
      refine sd_see 48 (.int .i64 23) (see_int (x := (23, 0).1) kr rfl) ?_
      refine sd_run 10 ?_
      refine sd_see 30 (.int .i64 ((k + 1 : Nat) : Int)) (see_int (x := (IntKind.i64.wrap (((k : Nat) : Int) + 1))) kr (w64 (by omega) (by omega) (by omega))) ?_
      refine sd_run 2 ?_
      refine sd_see 5 (.slice (some ⟨5, 0, none⟩) ((insL ls vs (k + 1)).length) (unk + 2)) (see_len (n := (insL ls vs k ++ [(23, 0)]).length) kr (by simp)) ?_
      refine sd_inv R1_ kr (hR1_ _ (N - (k + 1)) _ (emOf [some 0, some 1, some 5]) (by omega) ⟨k + 1, rfl, (by omega), rfl⟩ ⟨sub_of kr kr ⟨bk_flat (tab inC ls) kr (tab_plain inC_pl _) rfl, bk_flat (tab uC vs) kr (tab_plain uC_pl _) rfl, bk_flat (tab jjC (insL ls vs k ++ [(23, 0)])) kr (tab_plain jjC_pl _) (congrArg (tab jjC) (insL_snoc ha1 ha2 (by unfold insI insO; rw [hm]; rfl))), True.intro⟩, te_of kr kr⟩ kr)
  · skip
    obtain rfl : k = N := by omega
    refine sd_run 2 ?_
    refine sd_mid 185 (cl (cl (cl (cl (cr (cl (cr (cr f7b)))))))) [.next (cr (cl (cl (cl (cr (cl (cr (cr f7b)))))))), .next (cr (cl (cl (cr (cl (cr (cr f7b))))))), .inv R1_, .blk 0, .next (cr (cr (cr f7b)))] kr kr kr (fun s9 => s9 = ⟨tmL [(5, .slice (some ⟨2, 0, none⟩) ((insL ls vs k).length) (unk + 2)), (28, .bool false)], hq [some ⟨(tab inC ls), 3, true⟩, some ⟨(tab uC vs), 27, true⟩, some ⟨(tab jjC (insL ls vs k)), 55, false⟩]⟩) hX ?_ ?_
    · intro R2_ hR2_
      rcases (by omega : k = ls.length ∨ (k < ls.length ∧ k = vs.length) ∨ (k < ls.length ∧ k < vs.length ∧ k = 8)) with hq | hq | hq
      · skip
        refine sd_run 5 ?_
        refine sd_see 18 (.bool false) (see_bool kr ((decide_eq_false (by omega)) : ((decide (((k : Nat) : Int) < ((ls.length : Nat) : Int)))) = false)) ?_
        refine sd_run 11 ?_
        refine sd_inv R2_ kr (hR2_ _ _ (emOf [some 0, some 1, some 2]) rfl ⟨sub_of kr kr ⟨bk_flat (tab inC ls) kr (tab_plain inC_pl _) rfl, bk_flat (tab uC vs) kr (tab_plain uC_pl _) rfl, bk_flat (tab jjC (insL ls vs k)) kr (tab_plain jjC_pl _) rfl, True.intro⟩, te_of kr kr⟩ kr)
      · skip
        refine sd_run 5 ?_
        refine sd_see 18 (.bool true) (see_bool kr ((decide_eq_true (by omega)) : ((decide (((k : Nat) : Int) < ((ls.length : Nat) : Int)))) = true)) ?_
        refine sd_run 5 ?_
        refine sd_see 23 (.bool false) (see_bool kr ((decide_eq_false (by omega)) : ((decide (((k : Nat) : Int) < ((vs.length : Nat) : Int)))) = false)) ?_
        refine sd_run 6 ?_
        refine sd_inv R2_ kr (hR2_ _ _ (emOf [some 0, some 1, some 2]) rfl ⟨sub_of kr kr ⟨bk_flat (tab inC ls) kr (tab_plain inC_pl _) rfl, bk_flat (tab uC vs) kr (tab_plain uC_pl _) rfl, bk_flat (tab jjC (insL ls vs k)) kr (tab_plain jjC_pl _) rfl, True.intro⟩, te_of kr kr⟩ kr)
      · skip
        refine sd_run 5 ?_
        refine sd_see 18 (.bool true) (see_bool kr ((decide_eq_true (by omega)) : ((decide (((k : Nat) : Int) < ((ls.length : Nat) : Int)))) = true)) ?_
        refine sd_run 5 ?_
        refine sd_see 23 (.bool true) (see_bool kr ((decide_eq_true (by omega)) : ((decide (((k : Nat) : Int) < ((vs.length : Nat) : Int)))) = true)) ?_
        refine sd_run 4 ?_
        refine sd_see 27 (.bool false) (see_bool kr ((decide_eq_false (by omega)) : ((decide (((k : Nat) : Int) < 8))) = false)) ?_
        refine sd_run 2 ?_
        refine sd_inv R2_ kr (hR2_ _ _ (emOf [some 0, some 1, some 2]) rfl ⟨sub_of kr kr ⟨bk_flat (tab inC ls) kr (tab_plain inC_pl _) rfl, bk_flat (tab uC vs) kr (tab_plain uC_pl _) rfl, bk_flat (tab jjC (insL ls vs k)) kr (tab_plain jjC_pl _) rfl, True.intro⟩, te_of kr kr⟩ kr)
    · rintro s9 rfl
      refine sd_run 9 ?_
      by_cases hk0 : k = 0
      · skip
        refine sd_run 3 ?_
        refine sd_see 60 (.int .i64 ((k : Nat) : Int)) (see_int (x := (((insL ls vs k).length : Nat) : Int)) kr (by rw [insL_len])) ?_
        refine sd_run 1 ?_
        refine sd_see 61 (.bool true) (see_bool kr ((beq_iff_eq.2 (by omega)) : ((((k : Nat) : Int) == 0)) = true)) ?_
        refine sd_run 11 ?_
        refine sd_end (.bool true) hX kr kr kr (.bool true) (hq [some ⟨(tab inC ls), 3, true⟩, some ⟨(tab uC vs), 27, true⟩]) (emOf [some 0, some 1]) (sub_of kr kr ⟨bk_flat (tab inC ls) kr (tab_plain inC_pl _) rfl, bk_flat (tab uC vs) kr (tab_plain uC_pl _) rfl, True.intro⟩) (rn2_sound _ _ kr) ⟨rfl, rfl⟩
      · skip
        have hil := insL_len ls vs k
        have hok : OkIns (insL ls vs k) := ins_ok hr2 (by omega) (by omega)
        have hni : ∀ z ∈ insL ls vs k, 0 ≤ z.2 ∧ z.2 < 4294967296 := ins_n hr2
        refine sd_run 3 ?_
        refine sd_see 60 (.int .i64 ((k : Nat) : Int)) (see_int (x := (((insL ls vs k).length : Nat) : Int)) kr (by rw [insL_len])) ?_
        refine sd_run 1 ?_
        refine sd_see 61 (.bool false) (see_bool kr ((beq_eq_false_iff_ne.2 (by omega)) : ((((k : Nat) : Int) == 0)) = false)) ?_
        refine sd_run 8 ?_
        refine sd_call 65 17 #[.int .u32 5, .slice (some ⟨2, 0, none⟩) ((insL ls vs k).length) (unk + 2)] (lower_s (pc := 5) (kc := (unk + 2)) (l := insL ls vs k) hok (low_b hok hni) (low_right hok hni)) (emOf [some 2]) kr kr kr (hn_of 0 kr ⟨bk_flat (tab jjC (insL ls vs k)) kr (tab_plain jjC_pl _) rfl, True.intro⟩) (rnG_sound rn2_sound _ _ kr) ?_
        rintro v9 k9 ⟨c2_, d2_, r2_, nd2_, hd2_, nr2_, hr2_, fl2_, tg2_, br2_, f12_, t12_, nx2_, tk2_, C2_, OD2_, RD2_, q3_0, q3_1, q3_2, q3_3, q3_4, q3_5, q3_6, q3_7, rfl, rfl⟩
        refine ⟨.tuple #[.agg #[.slice (some ⟨3, 0, none⟩) C2_.length (unk + 5), .int .i64 nd2_, .int .i64 nr2_, .int .i64 hd2_, .int .i64 hr2_, .slice (some ⟨4, 0, none⟩) OD2_.length (unk + 1), .slice (some ⟨5, 0, none⟩) RD2_.length (unk + 1), .int .i64 f12_, .int .u32 nx2_, .int .i64 t12_, .int .i64 br2_, .int .u32 tk2_, .int .i64 (((insL ls vs k).length : Nat) : Int), .int .i64 ((C2_.length : Nat) : Int)], .int .i64 0], hq [some ⟨(tab inC ls), 3, true⟩, some ⟨(tab uC vs), 27, true⟩, some ⟨(tab jjC (insL ls vs k)), 55, false⟩, some ⟨(tab iiC C2_), 50, false⟩, some ⟨(tab inC OD2_), 3, false⟩, some ⟨(tab inC RD2_), 3, false⟩], glue_of kr kr ⟨cov_old kr kr, cov_old kr kr, cov_same 0 (hn_of 0 kr ⟨bk_flat (tab jjC (insL ls vs k)) kr (tab_plain jjC_pl _) rfl, True.intro⟩) kr kr kr kr kr, cov_flat 1 kr kr (tab_plain iiC_pl _), cov_flat 2 kr kr (tab_plain inC_pl _), cov_flat 3 kr kr (tab_plain inC_pl _), True.intro⟩, rn2_sound _ _ kr, ?_⟩
        have hlr := low_right (pc := 5) hok hni
        rw [q3_0] at hlr
        simp only at hlr
        have him := (low_inv (pc := 5) hok hni _ (Nat.le_refl _)).1.cr.imm
        rw [q3_0] at him
        simp only at him
        have hdl := (low_inv (pc := 5) hok hni _ (Nat.le_refl _)).1.dle
        rw [q3_0] at hdl
        simp only at hdl
        have hrle := (low_inv (pc := 5) hok hni _ (Nat.le_refl _)).1.rle
        rw [q3_0] at hrle
        simp only at hrle
        obtain ⟨hR, hi⟩ := sweep_right hlr him
        rw [← q3_5, ← q3_6, ← q3_7, ← q3_1, ← q3_2] at hR
        rw [← q3_5] at hi
        have hol : OD2_.length < 100 := by rw [q3_6, movL_len]; omega
        have hrl : RD2_.length < 100 := by rw [q3_7, movL_len]; omega
        have hlen := hR.len
        have hiv := (iv_of hR).at_
        refine sd_run 11 ?_
        refine sd_call 69 10 #[.agg #[.slice (some ⟨3, 0, none⟩) C2_.length (unk + 5), .int .i64 nd2_, .int .i64 nr2_, .int .i64 hd2_, .int .i64 hr2_, .slice (some ⟨4, 0, none⟩) OD2_.length (unk + 1), .slice (some ⟨5, 0, none⟩) RD2_.length (unk + 1), .int .i64 f12_, .int .u32 nx2_, .int .i64 t12_, .int .i64 br2_, .int .u32 tk2_, .int .i64 (((insL ls vs k).length : Nat) : Int), .int .i64 ((C2_.length : Nat) : Int)]] (of_s (c := C2_) (nd := nd2_) (nr := nr2_) (hd := hd2_) (hr := hr2_) (od := OD2_) (rd := RD2_) (fl := f12_) (nx := nx2_) (tg := t12_) (br := br2_) (tk := tk2_) (ct := (((insL ls vs k).length : Nat) : Int)) hR (by omega) (by omega) hi) (emOf [some 3, some 4, some 5]) kr kr kr (hn_of 0 kr ⟨bk_flat (tab iiC C2_) kr (tab_plain iiC_pl _) rfl, bk_flat (tab inC OD2_) kr (tab_plain inC_pl _) rfl, bk_flat (tab inC RD2_) kr (tab_plain inC_pl _) rfl, True.intro⟩) (rnG_sound rn2_sound _ _ kr) ?_
        rintro v9 k9 ⟨rfl, rfl⟩
        refine ⟨.slice (some ⟨7, 0, none⟩) C2_.length (unk + 3), hq [some ⟨(tab inC ls), 3, true⟩, some ⟨(tab uC vs), 27, true⟩, some ⟨(tab jjC (insL ls vs k)), 55, false⟩, some ⟨(tab iiC C2_), 50, false⟩, some ⟨(tab inC OD2_), 3, false⟩, some ⟨(tab inC RD2_), 3, false⟩, some ⟨[Value.slice (some ⟨3, 0, none⟩) C2_.length (unk + 5), .int .i64 nd2_, .int .i64 nr2_, .int .i64 hd2_, .int .i64 hr2_, .slice (some ⟨4, 0, none⟩) OD2_.length (unk + 1), .slice (some ⟨5, 0, none⟩) RD2_.length (unk + 1), .int .i64 f12_, .int .u32 nx2_, .int .i64 t12_, .int .i64 br2_, .int .u32 tk2_, .int .i64 (((insL ls vs k).length : Nat) : Int), .int .i64 ((C2_.length : Nat) : Int)], 29, false⟩, some ⟨(tab ivC (ofL C2_ OD2_ RD2_ f12_ t12_)), 40, false⟩], glue_of kr kr ⟨cov_old kr kr, cov_old kr kr, cov_old kr kr, cov_same 0 (hn_of 0 kr ⟨bk_flat (tab iiC C2_) kr (tab_plain iiC_pl _) rfl, bk_flat (tab inC OD2_) kr (tab_plain inC_pl _) rfl, bk_flat (tab inC RD2_) kr (tab_plain inC_pl _) rfl, True.intro⟩) kr kr kr kr kr, cov_same 1 (hn_of 0 kr ⟨bk_flat (tab iiC C2_) kr (tab_plain iiC_pl _) rfl, bk_flat (tab inC OD2_) kr (tab_plain inC_pl _) rfl, bk_flat (tab inC RD2_) kr (tab_plain inC_pl _) rfl, True.intro⟩) kr kr kr kr kr, cov_same 2 (hn_of 0 kr ⟨bk_flat (tab iiC C2_) kr (tab_plain iiC_pl _) rfl, bk_flat (tab inC OD2_) kr (tab_plain inC_pl _) rfl, bk_flat (tab inC RD2_) kr (tab_plain inC_pl _) rfl, True.intro⟩) kr kr kr kr kr, cov_old kr kr, cov_flat 3 kr kr (tab_plain ivC_pl _), True.intro⟩, rn2_sound _ _ kr, ?_⟩
        refine sd_see 69 (.slice (some ⟨7, 0, none⟩) ((ofL C2_ OD2_ RD2_ f12_ t12_).length) (unk + 3)) (see_len (n := C2_.length) kr (by simp)) ?_
        refine sd_run 5 ?_
        refine sd_drawP kr ?_
        refine svp_go 4 ?_
        refine svp_line ?_
        refine sv_callp 74 18 #[.agg #[.slice (some ⟨3, 0, none⟩) C2_.length (unk + 5), .int .i64 nd2_, .int .i64 nr2_, .int .i64 hd2_, .int .i64 hr2_, .slice (some ⟨4, 0, none⟩) OD2_.length (unk + 1), .slice (some ⟨5, 0, none⟩) RD2_.length (unk + 1), .int .i64 f12_, .int .u32 nx2_, .int .i64 t12_, .int .i64 br2_, .int .u32 tk2_, .int .i64 (((insL ls vs k).length : Nat) : Int), .int .i64 ((C2_.length : Nat) : Int)]] (rright_s (c := C2_) (nd := nd2_) (nr := nr2_) (hd := hd2_) (hr := hr2_) (od := OD2_) (rd := RD2_) (fl := f12_) (nx := nx2_) (tg := t12_) (br := br2_) (tk := tk2_) (ct := (((insL ls vs k).length : Nat) : Int)) hR (by omega) (by omega) hi) [some 3, some 4, some 5] kr kr kr (hn_of 0 kr ⟨bk_flat (tab iiC C2_) kr (tab_plain iiC_pl _) rfl, bk_flat (tab inC OD2_) kr (tab_plain inC_pl _) rfl, bk_flat (tab inC RD2_) kr (tab_plain inC_pl _) rfl, True.intro⟩) kr kr ?_
        rintro v9 k9 ⟨rfl, rfl⟩
        refine ⟨rfl, .bool true, kr, ?_⟩
        refine sv_run 5 ?_
        refine sv_see 79 (.int .i64 ((C2_.length : Nat) : Int)) (see_int (x := (((ofL C2_ OD2_ RD2_ f12_ t12_).length : Nat) : Int)) kr (by simp)) ?_
        refine sv_run 3 ?_
        refine sv_see 82 (.bool false) (see_bool kr ((bne_eq_false_iff_eq.2 (by omega)) : ((((C2_.length : Nat) : Int) != ((C2_.length : Nat) : Int))) = false)) ?_
        refine sv_run 3 ?_
        refine sv_callp 86 15 #[.slice (some ⟨7, 0, none⟩) ((ofL C2_ OD2_ RD2_ f12_ t12_).length) (unk + 3)] (press_s (kc := (unk + 3)) (l := ofL C2_ OD2_ RD2_ f12_ t12_) (by simp; omega)) [some 7] kr kr kr (hn_of 0 kr ⟨bk_flat (tab ivC (ofL C2_ OD2_ RD2_ f12_ t12_)) kr (tab_plain ivC_pl _) rfl, True.intro⟩) kr kr ?_
        rintro v9 k9 ⟨rfl, rfl⟩
        refine ⟨rfl, .int .i64 (((pressL (ofL C2_ OD2_ RD2_ f12_ t12_) (ofL C2_ OD2_ RD2_ f12_ t12_)) : Nat) : Int), kr, ?_⟩
        obtain ⟨PR, hPR⟩ : ∃ PR, PR = pressL (ofL C2_ OD2_ RD2_ f12_ t12_) (ofL C2_ OD2_ RD2_ f12_ t12_) := ⟨_, rfl⟩
        have hPl := pressL_le (ofL C2_ OD2_ RD2_ f12_ t12_) (ofL C2_ OD2_ RD2_ f12_ t12_)
        rw [← hPR, ofL_len] at hPl
        refine sv_see 86 (.int .i64 ((PR : Nat) : Int)) (see_int (x := (((pressL (ofL C2_ OD2_ RD2_ f12_ t12_) (ofL C2_ OD2_ RD2_ f12_ t12_)) : Nat) : Int)) kr (by rw [hPR])) ?_
        refine sv_run 1 ?_
        refine sv_rd 88 (.int .i64 ((C2_.length : Nat) : Int)) 3 6 13 kr kr kr kr (veq_int _ _) kr ?_
        refine sv_run 1 ?_
        refine sv_see 89 (.bool false) (see_bool kr ((decide_eq_false (by omega)) : ((decide (((PR : Nat) : Int) > ((C2_.length : Nat) : Int)))) = false)) ?_
        refine sv_run 1 ?_
        refine sv_end kr ?_
        refine sd_run 11 ?_
        refine sd_loop 185 (cl (cl (cr (cl (cr (cr (cr (cr (cr (cr (cr f7b))))))))))) [.blk 2, .next (cr (cr (cr (cr (cr (cr (cr (cr f7b))))))))] kr kr kr (fun m9 s9 => ∃ (i : Nat), m9 = C2_.length - i ∧ (i ≤ C2_.length) ∧ s9 = ⟨tmL [(7, .pointer (some ⟨6, 0, none⟩)), (9, .slice (some ⟨7, 0, none⟩) ((ofL C2_ OD2_ RD2_ f12_ t12_).length) (unk + 3)), (10, .int .i64 ((i : Nat) : Int))], hq [some ⟨(tab inC ls), 3, true⟩, some ⟨(tab uC vs), 27, true⟩, none, some ⟨(tab iiC C2_), 50, false⟩, some ⟨(tab inC OD2_), 3, false⟩, some ⟨(tab inC RD2_), 3, false⟩, some ⟨[Value.slice (some ⟨3, 0, none⟩) C2_.length (unk + 5), .int .i64 nd2_, .int .i64 nr2_, .int .i64 hd2_, .int .i64 hr2_, .slice (some ⟨4, 0, none⟩) OD2_.length (unk + 1), .slice (some ⟨5, 0, none⟩) RD2_.length (unk + 1), .int .i64 f12_, .int .u32 nx2_, .int .i64 t12_, .int .i64 br2_, .int .u32 tk2_, .int .i64 (((insL ls vs k).length : Nat) : Int), .int .i64 ((C2_.length : Nat) : Int)], 29, false⟩, some ⟨(tab ivC (ofL C2_ OD2_ RD2_ f12_ t12_)), 40, false⟩]⟩) (C2_.length - 0) _ (emOf [some 0, some 1, none, some 3, some 4, some 5, some 6, some 7]) hX ⟨0, rfl, (by omega), rfl⟩ ⟨sub_of kr kr ⟨bk_flat (tab inC ls) kr (tab_plain inC_pl _) rfl, bk_flat (tab uC vs) kr (tab_plain uC_pl _) rfl, bk_flat (tab iiC C2_) kr (tab_plain iiC_pl _) rfl, bk_flat (tab inC OD2_) kr (tab_plain inC_pl _) rfl, bk_flat (tab inC RD2_) kr (tab_plain inC_pl _) rfl, bk_ren kr kr, bk_flat (tab ivC (ofL C2_ OD2_ RD2_ f12_ t12_)) kr (tab_plain ivC_pl _) rfl, True.intro⟩, te_of kr kr⟩ kr ?_
        rintro m9 s9 ⟨i, rfl, i3_0, rfl⟩ R3_ hR3_
        by_cases hlt2 : i < C2_.length
        · skip
          obtain ⟨a4, ha4⟩ : ∃ x_, (ofL C2_ OD2_ RD2_ f12_ t12_)[i]? = some x_ := ⟨_, List.getElem?_eq_getElem (by simp; omega)⟩
          obtain ⟨e1, e2, e3, e4, e5, e6⟩ := hiv i a4 ha4
          refine sd_run 6 ?_
          refine sd_see 93 (.int .i64 ((C2_.length : Nat) : Int)) (see_int (x := (((ofL C2_ OD2_ RD2_ f12_ t12_).length : Nat) : Int)) kr (by simp)) ?_
          refine sd_run 1 ?_
          refine sd_see 94 (.bool true) (see_bool kr ((decide_eq_true (by omega)) : ((decide (((i : Nat) : Int) < ((C2_.length : Nat) : Int)))) = true)) ?_
          refine sd_run 11 ?_
          refine sd_ix 99 (.pointer (some ⟨7, 0 + i * 3, none⟩)) i ((ofL C2_ OD2_ RD2_ f12_ t12_).length) kr kr kr (by first | omega | (simp; done) | (simp; omega)) ?_
          refine sd_run 1 ?_
          refine sd_ld 101 (.int .i64 a4.2.1) 3 (.pointer (some ⟨7, 0 + i * 3 + 1, none⟩)) kr kr kr (ld_cell (l := ofL C2_ OD2_ RD2_ f12_ t12_) (e := 40) (ro := false) (k := i) (j := 1) ivC_len kr kr kr ha4 rfl) ?_
          refine sd_run 2 ?_
          refine sd_see 103 (.bool false) (see_bool kr ((bne_eq_false_iff_eq.2 e2) : (((a4.2.1 : Int) != ((i : Nat) : Int))) = false)) ?_
          refine sd_run 3 ?_
          refine sd_ix 107 (.pointer (some ⟨7, 0 + i * 3, none⟩)) i ((ofL C2_ OD2_ RD2_ f12_ t12_).length) kr kr kr (by first | omega | (simp; done) | (simp; omega)) ?_
          refine sd_run 1 ?_
          refine sd_ld 109 (.int .i64 a4.2.2) 3 (.pointer (some ⟨7, 0 + i * 3 + 2, none⟩)) kr kr kr (ld_cell (l := ofL C2_ OD2_ RD2_ f12_ t12_) (e := 40) (ro := false) (k := i) (j := 2) ivC_len kr kr kr ha4 rfl) ?_
          refine sd_run 2 ?_
          refine sd_see 111 (.bool false) (see_bool kr ((decide_eq_false (by omega)) : ((decide ((a4.2.2 : Int) < ((i : Nat) : Int)))) = false)) ?_
          refine sd_run 4 ?_
          refine sd_ix 116 (.pointer (some ⟨7, 0 + i * 3, none⟩)) i ((ofL C2_ OD2_ RD2_ f12_ t12_).length) kr kr kr (by first | omega | (simp; done) | (simp; omega)) ?_
          refine sd_run 1 ?_
          refine sd_ld 118 (.int .i64 a4.2.2) 3 (.pointer (some ⟨7, 0 + i * 3 + 2, none⟩)) kr kr kr (ld_cell (l := ofL C2_ OD2_ RD2_ f12_ t12_) (e := 40) (ro := false) (k := i) (j := 2) ivC_len kr kr kr ha4 rfl) ?_
          refine sd_run 3 ?_
          refine sd_see 121 (.bool false) (see_bool kr ((decide_eq_false (by omega)) : ((decide ((a4.2.2 : Int) > ((C2_.length : Nat) : Int)))) = false)) ?_
          refine sd_run 10 ?_
          refine sd_see 96 (.int .i64 ((i + 1 : Nat) : Int)) (see_int (x := (IntKind.i64.wrap (((i : Nat) : Int) + 1))) kr (w64 (by omega) (by omega) (by omega))) ?_
          refine sd_run 2 ?_
          refine sd_inv R3_ kr (hR3_ _ (C2_.length - (i + 1)) _ (emOf [some 0, some 1, none, some 3, some 4, some 5, some 6, some 7]) (by omega) ⟨i + 1, rfl, (by omega), rfl⟩ ⟨sub_of kr kr ⟨bk_flat (tab inC ls) kr (tab_plain inC_pl _) rfl, bk_flat (tab uC vs) kr (tab_plain uC_pl _) rfl, bk_flat (tab iiC C2_) kr (tab_plain iiC_pl _) rfl, bk_flat (tab inC OD2_) kr (tab_plain inC_pl _) rfl, bk_flat (tab inC RD2_) kr (tab_plain inC_pl _) rfl, bk_ren kr kr, bk_flat (tab ivC (ofL C2_ OD2_ RD2_ f12_ t12_)) kr (tab_plain ivC_pl _) rfl, True.intro⟩, te_of kr kr⟩ kr)
        · skip
          obtain rfl : i = C2_.length := by omega
          refine sd_run 6 ?_
          refine sd_see 93 (.int .i64 ((C2_.length : Nat) : Int)) (see_int (x := (((ofL C2_ OD2_ RD2_ f12_ t12_).length : Nat) : Int)) kr (by simp)) ?_
          refine sd_run 1 ?_
          refine sd_see 94 (.bool false) (see_bool kr ((decide_eq_false (by omega)) : ((decide (((C2_.length : Nat) : Int) < ((C2_.length : Nat) : Int)))) = false)) ?_
          refine sd_run 15 ?_
          refine sd_loop 185 (cl (cl (cr (cl (cr (cr (cr (cr (cr (cr (cr (cr f7b)))))))))))) [.blk 4, .next (cr (cr (cr (cr (cr (cr (cr (cr (cr f7b)))))))))] kr kr kr (fun m9 s9 => ∃ (i : Nat), m9 = C2_.length - i ∧ (i ≤ C2_.length) ∧ s9 = ⟨tmL [(7, .pointer (some ⟨6, 0, none⟩)), (9, .slice (some ⟨7, 0, none⟩) ((ofL C2_ OD2_ RD2_ f12_ t12_).length) (unk + 3)), (11, .int .i64 ((i : Nat) : Int))], hq [some ⟨(tab inC ls), 3, true⟩, some ⟨(tab uC vs), 27, true⟩, none, some ⟨(tab iiC C2_), 50, false⟩, some ⟨(tab inC OD2_), 3, false⟩, some ⟨(tab inC RD2_), 3, false⟩, some ⟨[Value.slice (some ⟨3, 0, none⟩) C2_.length (unk + 5), .int .i64 nd2_, .int .i64 nr2_, .int .i64 hd2_, .int .i64 hr2_, .slice (some ⟨4, 0, none⟩) OD2_.length (unk + 1), .slice (some ⟨5, 0, none⟩) RD2_.length (unk + 1), .int .i64 f12_, .int .u32 nx2_, .int .i64 t12_, .int .i64 br2_, .int .u32 tk2_, .int .i64 (((insL ls vs k).length : Nat) : Int), .int .i64 ((C2_.length : Nat) : Int)], 29, false⟩, some ⟨(tab ivC (ofL C2_ OD2_ RD2_ f12_ t12_)), 40, false⟩]⟩) (C2_.length - 0) _ (emOf [some 0, some 1, none, some 3, some 4, some 5, some 6, some 7]) hX ⟨0, rfl, (by omega), rfl⟩ ⟨sub_of kr kr ⟨bk_flat (tab inC ls) kr (tab_plain inC_pl _) rfl, bk_flat (tab uC vs) kr (tab_plain uC_pl _) rfl, bk_flat (tab iiC C2_) kr (tab_plain iiC_pl _) rfl, bk_flat (tab inC OD2_) kr (tab_plain inC_pl _) rfl, bk_flat (tab inC RD2_) kr (tab_plain inC_pl _) rfl, bk_ren kr kr, bk_flat (tab ivC (ofL C2_ OD2_ RD2_ f12_ t12_)) kr (tab_plain ivC_pl _) rfl, True.intro⟩, te_of kr kr⟩ kr ?_
          rintro m9 s9 ⟨i, rfl, i4_0, rfl⟩ R4_ hR4_
          by_cases hlt3 : i < C2_.length
          · skip
            obtain ⟨a5, ha5⟩ : ∃ x_, (C2_)[i]? = some x_ := ⟨_, List.getElem?_eq_getElem (by omega)⟩
            have hmd := hR.code i a5 ha5
            rcases (by omega : a5.1 = 3 ∨ a5.1 = 4 ∨ (a5.1 ≠ 3 ∧ a5.1 ≠ 4)) with hop | hop | hop
            · skip
              obtain ⟨⟨qa1, qa2⟩, qb1, qb2⟩ := made_ab hmd (by omega)
              obtain ⟨A, hA⟩ := Int.eq_ofNat_of_zero_le qa1
              obtain ⟨B, hB⟩ := Int.eq_ofNat_of_zero_le qb1
              have hAl : A < i := by omega
              have hBl : B < i := by omega
              obtain ⟨a6, ha6⟩ : ∃ x_, (ofL C2_ OD2_ RD2_ f12_ t12_)[A]? = some x_ := ⟨_, List.getElem?_eq_getElem (by simp; omega)⟩
              have hgA := (hiv A a6 ha6).2.2.2.2.2 ((i : Nat) : Int) (.inl ⟨i, a5, (List.getElem?_eq_some_iff.1 ha5).1, ha5, by omega, .inl hA, rfl⟩)
              obtain ⟨a7, ha7⟩ : ∃ x_, (ofL C2_ OD2_ RD2_ f12_ t12_)[B]? = some x_ := ⟨_, List.getElem?_eq_getElem (by simp; omega)⟩
              have hgB := (hiv B a7 ha7).2.2.2.2.2 ((i : Nat) : Int) (.inl ⟨i, a5, (List.getElem?_eq_some_iff.1 ha5).1, ha5, by omega, .inr hB, rfl⟩)
              refine sd_run 8 ?_
              refine sd_see 127 (.bool true) (see_bool kr ((decide_eq_true (by omega)) : ((decide (((i : Nat) : Int) < ((C2_.length : Nat) : Int)))) = true)) ?_
              refine sd_run 12 ?_
              refine sd_ix 133 (.pointer (some ⟨3, 0 + i * 5, none⟩)) i C2_.length kr kr kr (by first | omega | (simp; done) | (simp; omega)) ?_
              refine sd_ld 134 (.agg #[.int .i64 a5.1, .int .i64 a5.2.1, .int .i64 a5.2.2.1, .int .i64 a5.2.2.2.1, .int .u32 a5.2.2.2.2]) 50 (.pointer (some ⟨3, 0 + i * 5, none⟩)) kr kr kr (ld_row (l := C2_) (e := 50) (ro := false) (k := i) iiC_len kr kr kr ha5) ?_
              refine sd_run 8 ?_
              refine sd_see 136 (.int .i64 3) (see_int (x := a5.1) kr (by omega)) ?_
              refine sd_run 10 ?_
              refine sd_see 146 (.int .i64 ((A : Nat) : Int)) (see_int (x := a5.2.2.1) kr hA) ?_
              refine sd_ix 147 (.pointer (some ⟨7, 0 + A * 3, none⟩)) A ((ofL C2_ OD2_ RD2_ f12_ t12_).length) kr kr kr (by first | omega | (simp; done) | (simp; omega)) ?_
              refine sd_run 1 ?_
              refine sd_ld 149 (.int .i64 a6.2.2) 3 (.pointer (some ⟨7, 0 + A * 3 + 2, none⟩)) kr kr kr (ld_cell (l := ofL C2_ OD2_ RD2_ f12_ t12_) (e := 40) (ro := false) (k := A) (j := 2) ivC_len kr kr kr ha6 rfl) ?_
              refine sd_run 2 ?_
              refine sd_see 151 (.bool false) (see_bool kr ((decide_eq_false (by omega)) : ((decide ((a6.2.2 : Int) < ((i : Nat) : Int)))) = false)) ?_
              refine sd_run 4 ?_
              refine sd_see 155 (.int .i64 ((B : Nat) : Int)) (see_int (x := a5.2.2.2.1) kr hB) ?_
              refine sd_ix 156 (.pointer (some ⟨7, 0 + B * 3, none⟩)) B ((ofL C2_ OD2_ RD2_ f12_ t12_).length) kr kr kr (by first | omega | (simp; done) | (simp; omega)) ?_
              refine sd_run 1 ?_
              refine sd_ld 158 (.int .i64 a7.2.2) 3 (.pointer (some ⟨7, 0 + B * 3 + 2, none⟩)) kr kr kr (ld_cell (l := ofL C2_ OD2_ RD2_ f12_ t12_) (e := 40) (ro := false) (k := B) (j := 2) ivC_len kr kr kr ha7 rfl) ?_
              refine sd_run 2 ?_
              refine sd_see 160 (.bool false) (see_bool kr ((decide_eq_false (by omega)) : ((decide ((a7.2.2 : Int) < ((i : Nat) : Int)))) = false)) ?_
              refine sd_run 11 ?_
              refine sd_see 129 (.int .i64 ((i + 1 : Nat) : Int)) (see_int (x := (IntKind.i64.wrap (((i : Nat) : Int) + 1))) kr (w64 (by omega) (by omega) (by omega))) ?_
              refine sd_run 2 ?_
              refine sd_inv R4_ kr (hR4_ _ (C2_.length - (i + 1)) _ (emOf [some 0, some 1, none, some 3, some 4, some 5, some 6, some 7]) (by omega) ⟨i + 1, rfl, (by omega), rfl⟩ ⟨sub_of kr kr ⟨bk_flat (tab inC ls) kr (tab_plain inC_pl _) rfl, bk_flat (tab uC vs) kr (tab_plain uC_pl _) rfl, bk_flat (tab iiC C2_) kr (tab_plain iiC_pl _) rfl, bk_flat (tab inC OD2_) kr (tab_plain inC_pl _) rfl, bk_flat (tab inC RD2_) kr (tab_plain inC_pl _) rfl, bk_ren kr kr, bk_flat (tab ivC (ofL C2_ OD2_ RD2_ f12_ t12_)) kr (tab_plain ivC_pl _) rfl, True.intro⟩, te_of kr kr⟩ kr)
            · skip
              obtain ⟨⟨qa1, qa2⟩, qb1, qb2⟩ := made_ab hmd (by omega)
              obtain ⟨A, hA⟩ := Int.eq_ofNat_of_zero_le qa1
              obtain ⟨B, hB⟩ := Int.eq_ofNat_of_zero_le qb1
              have hAl : A < i := by omega
              have hBl : B < i := by omega
              obtain ⟨a8, ha8⟩ : ∃ x_, (ofL C2_ OD2_ RD2_ f12_ t12_)[A]? = some x_ := ⟨_, List.getElem?_eq_getElem (by simp; omega)⟩
              have hgA := (hiv A a8 ha8).2.2.2.2.2 ((i : Nat) : Int) (.inl ⟨i, a5, (List.getElem?_eq_some_iff.1 ha5).1, ha5, by omega, .inl hA, rfl⟩)
              obtain ⟨a9, ha9⟩ : ∃ x_, (ofL C2_ OD2_ RD2_ f12_ t12_)[B]? = some x_ := ⟨_, List.getElem?_eq_getElem (by simp; omega)⟩
              have hgB := (hiv B a9 ha9).2.2.2.2.2 ((i : Nat) : Int) (.inl ⟨i, a5, (List.getElem?_eq_some_iff.1 ha5).1, ha5, by omega, .inr hB, rfl⟩)
              refine sd_run 8 ?_
              refine sd_see 127 (.bool true) (see_bool kr ((decide_eq_true (by omega)) : ((decide (((i : Nat) : Int) < ((C2_.length : Nat) : Int)))) = true)) ?_
              refine sd_run 12 ?_
              refine sd_ix 133 (.pointer (some ⟨3, 0 + i * 5, none⟩)) i C2_.length kr kr kr (by first | omega | (simp; done) | (simp; omega)) ?_
              refine sd_ld 134 (.agg #[.int .i64 a5.1, .int .i64 a5.2.1, .int .i64 a5.2.2.1, .int .i64 a5.2.2.2.1, .int .u32 a5.2.2.2.2]) 50 (.pointer (some ⟨3, 0 + i * 5, none⟩)) kr kr kr (ld_row (l := C2_) (e := 50) (ro := false) (k := i) iiC_len kr kr kr ha5) ?_
              refine sd_run 8 ?_
              refine sd_see 136 (.int .i64 4) (see_int (x := a5.1) kr (by omega)) ?_
              refine sd_run 4 ?_
              refine sd_see 140 (.int .i64 4) (see_int (x := a5.1) kr (by omega)) ?_
              refine sd_run 6 ?_
              refine sd_see 146 (.int .i64 ((A : Nat) : Int)) (see_int (x := a5.2.2.1) kr hA) ?_
              refine sd_ix 147 (.pointer (some ⟨7, 0 + A * 3, none⟩)) A ((ofL C2_ OD2_ RD2_ f12_ t12_).length) kr kr kr (by first | omega | (simp; done) | (simp; omega)) ?_
              refine sd_run 1 ?_
              refine sd_ld 149 (.int .i64 a8.2.2) 3 (.pointer (some ⟨7, 0 + A * 3 + 2, none⟩)) kr kr kr (ld_cell (l := ofL C2_ OD2_ RD2_ f12_ t12_) (e := 40) (ro := false) (k := A) (j := 2) ivC_len kr kr kr ha8 rfl) ?_
              refine sd_run 2 ?_
              refine sd_see 151 (.bool false) (see_bool kr ((decide_eq_false (by omega)) : ((decide ((a8.2.2 : Int) < ((i : Nat) : Int)))) = false)) ?_
              refine sd_run 4 ?_
              refine sd_see 155 (.int .i64 ((B : Nat) : Int)) (see_int (x := a5.2.2.2.1) kr hB) ?_
              refine sd_ix 156 (.pointer (some ⟨7, 0 + B * 3, none⟩)) B ((ofL C2_ OD2_ RD2_ f12_ t12_).length) kr kr kr (by first | omega | (simp; done) | (simp; omega)) ?_
              refine sd_run 1 ?_
              refine sd_ld 158 (.int .i64 a9.2.2) 3 (.pointer (some ⟨7, 0 + B * 3 + 2, none⟩)) kr kr kr (ld_cell (l := ofL C2_ OD2_ RD2_ f12_ t12_) (e := 40) (ro := false) (k := B) (j := 2) ivC_len kr kr kr ha9 rfl) ?_
              refine sd_run 2 ?_
              refine sd_see 160 (.bool false) (see_bool kr ((decide_eq_false (by omega)) : ((decide ((a9.2.2 : Int) < ((i : Nat) : Int)))) = false)) ?_
              refine sd_run 11 ?_
              refine sd_see 129 (.int .i64 ((i + 1 : Nat) : Int)) (see_int (x := (IntKind.i64.wrap (((i : Nat) : Int) + 1))) kr (w64 (by omega) (by omega) (by omega))) ?_
              refine sd_run 2 ?_
              refine sd_inv R4_ kr (hR4_ _ (C2_.length - (i + 1)) _ (emOf [some 0, some 1, none, some 3, some 4, some 5, some 6, some 7]) (by omega) ⟨i + 1, rfl, (by omega), rfl⟩ ⟨sub_of kr kr ⟨bk_flat (tab inC ls) kr (tab_plain inC_pl _) rfl, bk_flat (tab uC vs) kr (tab_plain uC_pl _) rfl, bk_flat (tab iiC C2_) kr (tab_plain iiC_pl _) rfl, bk_flat (tab inC OD2_) kr (tab_plain inC_pl _) rfl, bk_flat (tab inC RD2_) kr (tab_plain inC_pl _) rfl, bk_ren kr kr, bk_flat (tab ivC (ofL C2_ OD2_ RD2_ f12_ t12_)) kr (tab_plain ivC_pl _) rfl, True.intro⟩, te_of kr kr⟩ kr)
            · skip
              refine sd_run 8 ?_
              refine sd_see 127 (.bool true) (see_bool kr ((decide_eq_true (by omega)) : ((decide (((i : Nat) : Int) < ((C2_.length : Nat) : Int)))) = true)) ?_
              refine sd_run 12 ?_
              refine sd_ix 133 (.pointer (some ⟨3, 0 + i * 5, none⟩)) i C2_.length kr kr kr (by first | omega | (simp; done) | (simp; omega)) ?_
              refine sd_ld 134 (.agg #[.int .i64 a5.1, .int .i64 a5.2.1, .int .i64 a5.2.2.1, .int .i64 a5.2.2.2.1, .int .u32 a5.2.2.2.2]) 50 (.pointer (some ⟨3, 0 + i * 5, none⟩)) kr kr kr (ld_row (l := C2_) (e := 50) (ro := false) (k := i) iiC_len kr kr kr ha5) ?_
              refine sd_run 9 ?_
              refine sd_see 137 (.bool false) (see_bool kr ((beq_eq_false_iff_ne.2 (by omega)) : (((a5.1 : Int) == 3)) = false)) ?_
              refine sd_run 4 ?_
              refine sd_see 141 (.bool false) (see_bool kr ((beq_eq_false_iff_ne.2 (by omega)) : (((a5.1 : Int) == 4)) = false)) ?_
              refine sd_run 30 ?_
              refine sd_see 129 (.int .i64 ((i + 1 : Nat) : Int)) (see_int (x := (IntKind.i64.wrap (((i : Nat) : Int) + 1))) kr (w64 (by omega) (by omega) (by omega))) ?_
              refine sd_run 2 ?_
              refine sd_inv R4_ kr (hR4_ _ (C2_.length - (i + 1)) _ (emOf [some 0, some 1, none, some 3, some 4, some 5, some 6, some 7]) (by omega) ⟨i + 1, rfl, (by omega), rfl⟩ ⟨sub_of kr kr ⟨bk_flat (tab inC ls) kr (tab_plain inC_pl _) rfl, bk_flat (tab uC vs) kr (tab_plain uC_pl _) rfl, bk_flat (tab iiC C2_) kr (tab_plain iiC_pl _) rfl, bk_flat (tab inC OD2_) kr (tab_plain inC_pl _) rfl, bk_flat (tab inC RD2_) kr (tab_plain inC_pl _) rfl, bk_ren kr kr, bk_flat (tab ivC (ofL C2_ OD2_ RD2_ f12_ t12_)) kr (tab_plain ivC_pl _) rfl, True.intro⟩, te_of kr kr⟩ kr)
          · skip
            obtain rfl : i = C2_.length := by omega
            refine sd_run 8 ?_
            refine sd_see 127 (.bool false) (see_bool kr ((decide_eq_false (by omega)) : ((decide (((C2_.length : Nat) : Int) < ((C2_.length : Nat) : Int)))) = false)) ?_
            refine sd_run 10 ?_
            refine sd_mid 185 (cl (cl (cr (cr (cr (cr (cr (cr (cr (cr (cr f7b))))))))))) [.next (cr (cl (cr (cr (cr (cr (cr (cr (cr (cr (cr f7b))))))))))), .next (cr (cr (cr (cr (cr (cr (cr (cr (cr (cr f7b))))))))))] kr kr kr (fun s9 => ∃ (xs : List Int) (cp : Nat), (xs = OD2_ ++ RD2_) ∧ s9 = ⟨tmL [(7, .pointer (some ⟨6, 0, none⟩)), (9, .slice (some ⟨7, 0, none⟩) ((ofL C2_ OD2_ RD2_ f12_ t12_).length) (unk + 3)), (169, .slice (some ⟨8, 0, none⟩) xs.length cp), (170, .int .i64 ((xs.length : Nat) : Int)), (171, .int .i64 0)], hq [some ⟨(tab inC ls), 3, true⟩, some ⟨(tab uC vs), 27, true⟩, none, some ⟨(tab iiC C2_), 50, false⟩, some ⟨(tab inC OD2_), 3, false⟩, some ⟨(tab inC RD2_), 3, false⟩, some ⟨[Value.slice (some ⟨3, 0, none⟩) C2_.length (unk + 5), .int .i64 nd2_, .int .i64 nr2_, .int .i64 hd2_, .int .i64 hr2_, .slice (some ⟨4, 0, none⟩) OD2_.length (unk + 1), .slice (some ⟨5, 0, none⟩) RD2_.length (unk + 1), .int .i64 f12_, .int .u32 nx2_, .int .i64 t12_, .int .i64 br2_, .int .u32 tk2_, .int .i64 (((insL ls vs k).length : Nat) : Int), .int .i64 ((C2_.length : Nat) : Int)], 29, false⟩, some ⟨(tab ivC (ofL C2_ OD2_ RD2_ f12_ t12_)), 40, false⟩, some ⟨(tab inC xs), 3, false⟩]⟩) hX ?_ ?_
            · intro R5_ hR5_
              by_cases hO : OD2_ = []
              · skip
                by_cases hQ : RD2_ = []
                · skip
                  have zO : OD2_.length = 0 := by first | (rw [hO]; rfl) | exact List.length_pos_iff.2 hO
                  have zQ : RD2_.length = 0 := by first | (rw [hQ]; rfl) | exact List.length_pos_iff.2 hQ
                  refine sd_drawP kr ?_
                  refine svp_go 3 ?_
                  refine svp_line ?_
                  refine sv_none0 166 22 22 3 0 7 8 3 (.slice (some ⟨4, 0, none⟩) OD2_.length (unk + 1)) kr kr kr kr kr ((asrc_tab (l := OD2_) (e := 3) (ro := false) inC_len kr rfl).trans (by rw [hO]; rfl)) kr kr ?_
                  refine sv_run 1 ?_
                  refine sv_rd 168 (.slice (some ⟨5, 0, none⟩) RD2_.length (unk + 1)) 22 6 6 kr kr kr kr (veq_slice _ _ _) kr ?_
                  refine sv_none0 169 22 22 3 0 7 8 3 (.slice (some ⟨5, 0, none⟩) RD2_.length (unk + 1)) kr kr kr kr kr ((asrc_tab (l := RD2_) (e := 3) (ro := false) inC_len kr rfl).trans (by rw [hQ]; rfl)) kr kr ?_
                  refine sv_run 2 ?_
                  refine sv_end kr ?_
                  refine sd_inv R5_ kr (hR5_ _ _ (emOf [some 0, some 1, none, some 3, some 4, some 5, some 6, some 7, some 8]) ⟨[], 0, (by rw [hO, hQ]; rfl), rfl⟩ ⟨sub_of kr kr ⟨bk_flat (tab inC ls) kr (tab_plain inC_pl _) rfl, bk_flat (tab uC vs) kr (tab_plain uC_pl _) rfl, bk_flat (tab iiC C2_) kr (tab_plain iiC_pl _) rfl, bk_flat (tab inC OD2_) kr (tab_plain inC_pl _) rfl, bk_flat (tab inC RD2_) kr (tab_plain inC_pl _) rfl, bk_ren kr kr, bk_flat (tab ivC (ofL C2_ OD2_ RD2_ f12_ t12_)) kr (tab_plain ivC_pl _) rfl, bk_flat [] kr (tab_plain inC_pl _) rfl, True.intro⟩, te_of kr kr⟩ kr)
                · skip
                  have zO : OD2_.length = 0 := by first | (rw [hO]; rfl) | exact List.length_pos_iff.2 hO
                  have zQ : RD2_.length > 0 := by first | (rw [hQ]; rfl) | exact List.length_pos_iff.2 hQ
                  refine sd_drawP kr ?_
                  refine svp_go 3 ?_
                  refine svp_line ?_
                  refine sv_none0 166 22 22 3 0 7 8 3 (.slice (some ⟨4, 0, none⟩) OD2_.length (unk + 1)) kr kr kr kr kr ((asrc_tab (l := OD2_) (e := 3) (ro := false) inC_len kr rfl).trans (by rw [hO]; rfl)) kr kr ?_
                  refine sv_run 1 ?_
                  refine sv_rd 168 (.slice (some ⟨5, 0, none⟩) RD2_.length (unk + 1)) 22 6 6 kr kr kr kr (veq_slice _ _ _) kr ?_
                  refine sv_first0 169 22 22 3 0 7 8 RD2_.length 9 3 (.slice (some ⟨5, 0, none⟩) RD2_.length (unk + 1)) (tab inC RD2_) (tab inC RD2_) kr kr kr kr kr (asrc_tab (l := RD2_) (e := 3) (ro := false) inC_len kr rfl) (by omega) kr (by omega) kr rfl kr kr ?_
                  refine sv_run 2 ?_
                  refine sv_end kr ?_
                  refine sd_inv R5_ kr (hR5_ _ _ (emOf [some 0, some 1, none, some 3, some 4, some 5, some 6, some 7, some 9]) ⟨RD2_, (unk + 1), (by rw [hO]; rfl), rfl⟩ ⟨sub_of kr kr ⟨bk_flat (tab inC ls) kr (tab_plain inC_pl _) rfl, bk_flat (tab uC vs) kr (tab_plain uC_pl _) rfl, bk_flat (tab iiC C2_) kr (tab_plain iiC_pl _) rfl, bk_flat (tab inC OD2_) kr (tab_plain inC_pl _) rfl, bk_flat (tab inC RD2_) kr (tab_plain inC_pl _) rfl, bk_ren kr kr, bk_flat (tab ivC (ofL C2_ OD2_ RD2_ f12_ t12_)) kr (tab_plain ivC_pl _) rfl, bk_flat (tab inC RD2_) kr (tab_plain inC_pl _) rfl, True.intro⟩, te_of kr kr⟩ kr)
              · skip
                by_cases hQ : RD2_ = []
                · skip
                  have zO : OD2_.length > 0 := by first | (rw [hO]; rfl) | exact List.length_pos_iff.2 hO
                  have zQ : RD2_.length = 0 := by first | (rw [hQ]; rfl) | exact List.length_pos_iff.2 hQ
                  refine sd_drawP kr ?_
                  refine svp_go 3 ?_
                  refine svp_line ?_
                  refine sv_first0 166 22 22 3 0 7 8 OD2_.length 9 3 (.slice (some ⟨4, 0, none⟩) OD2_.length (unk + 1)) (tab inC OD2_) (tab inC OD2_) kr kr kr kr kr (asrc_tab (l := OD2_) (e := 3) (ro := false) inC_len kr rfl) (by omega) kr (by omega) kr rfl kr kr ?_
                  refine sv_run 1 ?_
                  refine sv_rd 168 (.slice (some ⟨5, 0, none⟩) RD2_.length (unk + 1)) 22 6 6 kr kr kr kr (veq_slice _ _ _) kr ?_
                  refine sv_none1 169 22 22 3 0 7 9 OD2_.length (.slice (some ⟨5, 0, none⟩) RD2_.length (unk + 1)) (tab inC OD2_) kr kr kr kr kr ((asrc_tab (l := RD2_) (e := 3) (ro := false) inC_len kr rfl).trans (by rw [hQ]; rfl)) kr kr ?_
                  refine sv_run 2 ?_
                  refine sv_end kr ?_
                  refine sd_inv R5_ kr (hR5_ _ _ (emOf [some 0, some 1, none, some 3, some 4, some 5, some 6, some 7, some 9]) ⟨OD2_, (unk + 1), (by rw [hQ, List.append_nil]), rfl⟩ ⟨sub_of kr kr ⟨bk_flat (tab inC ls) kr (tab_plain inC_pl _) rfl, bk_flat (tab uC vs) kr (tab_plain uC_pl _) rfl, bk_flat (tab iiC C2_) kr (tab_plain iiC_pl _) rfl, bk_flat (tab inC OD2_) kr (tab_plain inC_pl _) rfl, bk_flat (tab inC RD2_) kr (tab_plain inC_pl _) rfl, bk_ren kr kr, bk_flat (tab ivC (ofL C2_ OD2_ RD2_ f12_ t12_)) kr (tab_plain ivC_pl _) rfl, bk_flat (tab inC OD2_) kr (tab_plain inC_pl _) rfl, True.intro⟩, te_of kr kr⟩ kr)
                · skip
                  have zO : OD2_.length > 0 := by first | (rw [hO]; rfl) | exact List.length_pos_iff.2 hO
                  have zQ : RD2_.length > 0 := by first | (rw [hQ]; rfl) | exact List.length_pos_iff.2 hQ
                  refine sd_drawP kr ?_
                  refine svp_go 3 ?_
                  refine svp_line ?_
                  refine sv_first0 166 22 22 3 0 7 8 OD2_.length 9 3 (.slice (some ⟨4, 0, none⟩) OD2_.length (unk + 1)) (tab inC OD2_) (tab inC OD2_) kr kr kr kr kr (asrc_tab (l := OD2_) (e := 3) (ro := false) inC_len kr rfl) (by omega) kr (by omega) kr rfl kr kr ?_
                  refine sv_run 1 ?_
                  refine sv_rd 168 (.slice (some ⟨5, 0, none⟩) RD2_.length (unk + 1)) 22 6 6 kr kr kr kr (veq_slice _ _ _) kr ?_
                  refine sv_grow 169 22 22 3 0 7 9 OD2_.length RD2_.length 10 (.slice (some ⟨5, 0, none⟩) RD2_.length (unk + 1)) (tab inC OD2_) (tab inC RD2_) (tab inC (OD2_ ++ RD2_)) kr kr kr kr kr ((tab_len inC_len _).trans (by rfl)) (asrc_tab (l := RD2_) (e := 3) (ro := false) inC_len kr rfl) (tab_ones inC_ones _) (by omega) kr (by omega) kr (tab_app _ _).symm kr ?_
                  refine sv_see 169 (.slice (some ⟨10, 0, none⟩) ((OD2_ ++ RD2_).length) (unk + 1)) (see_len (n := (OD2_.length + RD2_.length)) kr (by simp)) ?_
                  refine sv_run 2 ?_
                  refine sv_end kr ?_
                  refine sd_inv R5_ kr (hR5_ _ _ (emOf [some 0, some 1, none, some 3, some 4, some 5, some 6, some 7, some 10]) ⟨(OD2_ ++ RD2_), (unk + 1), rfl, rfl⟩ ⟨sub_of kr kr ⟨bk_flat (tab inC ls) kr (tab_plain inC_pl _) rfl, bk_flat (tab uC vs) kr (tab_plain uC_pl _) rfl, bk_flat (tab iiC C2_) kr (tab_plain iiC_pl _) rfl, bk_flat (tab inC OD2_) kr (tab_plain inC_pl _) rfl, bk_flat (tab inC RD2_) kr (tab_plain inC_pl _) rfl, bk_ren kr kr, bk_flat (tab ivC (ofL C2_ OD2_ RD2_ f12_ t12_)) kr (tab_plain ivC_pl _) rfl, bk_flat (tab inC (OD2_ ++ RD2_)) kr (tab_plain inC_pl _) rfl, True.intro⟩, te_of kr kr⟩ kr)
            · rintro s9 ⟨xs, cp, j5_0, rfl⟩
              refine sd_run 2 ?_
              have hxl : xs.length < 1000 := by have := congrArg List.length j5_0; rw [List.length_append] at this; omega
              have hxr : ∀ x ∈ xs, (x ∈ OD2_ ∨ x ∈ RD2_) ∧ 0 ≤ x ∧ x < ((C2_.length : Nat) : Int) := fun x hx => by
                rw [j5_0] at hx
                rcases List.mem_append.1 hx with h | h <;> obtain ⟨i, hi9⟩ := List.mem_iff_getElem?.1 h
                · exact ⟨.inl h, valB_iff.1 (hR.od_ i x hi9)⟩
                · exact ⟨.inr h, valB_iff.1 (hR.rd_ i x hi9)⟩
              refine sd_loop 185 (cl (cl (cr (cl (cr (cr (cr (cr (cr (cr (cr (cr (cr f7b))))))))))))) [.blk 6, .next (cr (cr (cr (cr (cr (cr (cr (cr (cr (cr f7b))))))))))] kr kr kr (fun m9 s9 => ∃ (j : Nat), m9 = xs.length - j ∧ (j ≤ xs.length) ∧ s9 = ⟨tmL [(7, .pointer (some ⟨6, 0, none⟩)), (9, .slice (some ⟨7, 0, none⟩) ((ofL C2_ OD2_ RD2_ f12_ t12_).length) (unk + 3)), (169, .slice (some ⟨8, 0, none⟩) xs.length cp), (170, .int .i64 ((xs.length : Nat) : Int)), (171, .int .i64 ((j : Nat) : Int))], hq [some ⟨(tab inC ls), 3, true⟩, some ⟨(tab uC vs), 27, true⟩, none, some ⟨(tab iiC C2_), 50, false⟩, some ⟨(tab inC OD2_), 3, false⟩, some ⟨(tab inC RD2_), 3, false⟩, some ⟨[Value.slice (some ⟨3, 0, none⟩) C2_.length (unk + 5), .int .i64 nd2_, .int .i64 nr2_, .int .i64 hd2_, .int .i64 hr2_, .slice (some ⟨4, 0, none⟩) OD2_.length (unk + 1), .slice (some ⟨5, 0, none⟩) RD2_.length (unk + 1), .int .i64 f12_, .int .u32 nx2_, .int .i64 t12_, .int .i64 br2_, .int .u32 tk2_, .int .i64 (((insL ls vs k).length : Nat) : Int), .int .i64 ((C2_.length : Nat) : Int)], 29, false⟩, some ⟨(tab ivC (ofL C2_ OD2_ RD2_ f12_ t12_)), 40, false⟩, some ⟨(tab inC xs), 3, false⟩]⟩) (xs.length - 0) _ (emOf [some 0, some 1, none, some 3, some 4, some 5, some 6, some 7, some 8]) hX ⟨0, rfl, (by omega), rfl⟩ ⟨sub_of kr kr ⟨bk_flat (tab inC ls) kr (tab_plain inC_pl _) rfl, bk_flat (tab uC vs) kr (tab_plain uC_pl _) rfl, bk_flat (tab iiC C2_) kr (tab_plain iiC_pl _) rfl, bk_flat (tab inC OD2_) kr (tab_plain inC_pl _) rfl, bk_flat (tab inC RD2_) kr (tab_plain inC_pl _) rfl, bk_ren kr kr, bk_flat (tab ivC (ofL C2_ OD2_ RD2_ f12_ t12_)) kr (tab_plain ivC_pl _) rfl, bk_flat (tab inC xs) kr (tab_plain inC_pl _) rfl, True.intro⟩, te_of kr kr⟩ kr ?_
              rintro m9 s9 ⟨j, rfl, i6_0, rfl⟩ R6_ hR6_
              by_cases hlt4 : j < xs.length
              · skip
                obtain ⟨a10, ha10⟩ : ∃ x_, (xs)[j]? = some x_ := ⟨_, List.getElem?_eq_getElem (by omega)⟩
                obtain ⟨hm, qa1, qa2⟩ := hxr _ (List.mem_of_getElem? ha10)
                obtain ⟨X, hX2⟩ := Int.eq_ofNat_of_zero_le qa1
                obtain ⟨a11, ha11⟩ : ∃ x_, (ofL C2_ OD2_ RD2_ f12_ t12_)[X]? = some x_ := ⟨_, List.getElem?_eq_getElem (by simp; omega)⟩
                obtain ⟨e1, e2, e3, e4, e5, e6⟩ := hiv X a11 ha11
                rw [hX2] at hm
                have hbn := e6 ((C2_.length : Nat) : Int) (.inr ⟨by rcases hm with h | h; exact .inl h; exact .inr (.inl h), rfl⟩)
                refine sd_run 3 ?_
                refine sd_see 172 (.bool true) (see_bool kr ((decide_eq_true (by omega)) : ((decide (((j : Nat) : Int) < ((xs.length : Nat) : Int)))) = true)) ?_
                refine sd_run 10 ?_
                refine sd_ix 173 (.pointer (some ⟨8, 0 + j * 1, none⟩)) j xs.length kr kr kr (by first | omega | (simp; done) | (simp; omega)) ?_
                refine sd_ld 174 (.int .i64 a10) 3 (.pointer (some ⟨8, 0 + j * 1, none⟩)) kr kr kr (ld_cell (l := xs) (e := 3) (ro := false) (k := j) (j := 0) inC_len kr kr kr ha10 rfl) ?_
                refine sd_run 7 ?_
                refine sd_see 176 (.int .i64 ((X : Nat) : Int)) (see_int (x := a10) kr hX2) ?_
                refine sd_ix 177 (.pointer (some ⟨7, 0 + X * 3, none⟩)) X ((ofL C2_ OD2_ RD2_ f12_ t12_).length) kr kr kr (by first | omega | (simp; done) | (simp; omega)) ?_
                refine sd_run 1 ?_
                refine sd_ld 179 (.int .i64 a11.2.2) 3 (.pointer (some ⟨7, 0 + X * 3 + 2, none⟩)) kr kr kr (ld_cell (l := ofL C2_ OD2_ RD2_ f12_ t12_) (e := 40) (ro := false) (k := X) (j := 2) ivC_len kr kr kr ha11 rfl) ?_
                refine sd_see 179 (.int .i64 ((C2_.length : Nat) : Int)) (see_int (x := a11.2.2) kr (by omega)) ?_
                refine sd_run 3 ?_
                refine sd_see 182 (.bool false) (see_bool kr ((bne_eq_false_iff_eq.2 (by omega)) : ((((C2_.length : Nat) : Int) != ((C2_.length : Nat) : Int))) = false)) ?_
                refine sd_run 8 ?_
                refine sd_see 183 (.int .i64 ((j + 1 : Nat) : Int)) (see_int (x := (IntKind.i64.wrap (((j : Nat) : Int) + 1))) kr (w64 (by omega) (by omega) (by omega))) ?_
                refine sd_run 2 ?_
                refine sd_inv R6_ kr (hR6_ _ (xs.length - (j + 1)) _ (emOf [some 0, some 1, none, some 3, some 4, some 5, some 6, some 7, some 8]) (by omega) ⟨j + 1, rfl, (by omega), rfl⟩ ⟨sub_of kr kr ⟨bk_flat (tab inC ls) kr (tab_plain inC_pl _) rfl, bk_flat (tab uC vs) kr (tab_plain uC_pl _) rfl, bk_flat (tab iiC C2_) kr (tab_plain iiC_pl _) rfl, bk_flat (tab inC OD2_) kr (tab_plain inC_pl _) rfl, bk_flat (tab inC RD2_) kr (tab_plain inC_pl _) rfl, bk_ren kr kr, bk_flat (tab ivC (ofL C2_ OD2_ RD2_ f12_ t12_)) kr (tab_plain ivC_pl _) rfl, bk_flat (tab inC xs) kr (tab_plain inC_pl _) rfl, True.intro⟩, te_of kr kr⟩ kr)
              · skip
                obtain rfl : j = xs.length := by omega
                refine sd_run 3 ?_
                refine sd_see 172 (.bool false) (see_bool kr ((decide_eq_false (by omega)) : ((decide (((xs.length : Nat) : Int) < ((xs.length : Nat) : Int)))) = false)) ?_
                refine sd_run 16 ?_
                refine sd_end (.bool true) hX kr kr kr (.bool true) (hq [some ⟨(tab inC ls), 3, true⟩, some ⟨(tab uC vs), 27, true⟩]) (emOf [some 0, some 1]) (sub_of kr kr ⟨bk_flat (tab inC ls) kr (tab_plain inC_pl _) rfl, bk_flat (tab uC vs) kr (tab_plain uC_pl _) rfl, True.intro⟩) (rn2_sound _ _ kr) ⟨rfl, rfl⟩
end Ls
end Go.Proofs.Ytahikechkggbfaa
