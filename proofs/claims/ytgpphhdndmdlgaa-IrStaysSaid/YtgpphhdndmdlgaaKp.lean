/- Chapter 19: what is left on a stack. -/
import Derived.Test.YtgpphhdndmdlgaaKo
namespace Go.Proofs.Ytgpphhdndmdlgaa
open Go Go.Ev Go.RowKit
set_option linter.unusedVariables false
set_option linter.unusedSimpArgs false
set_option maxRecDepth 100000
namespace Ls
noncomputable def f65b : Code := Try.f65.body.getD .skip
theorem f65_body : Try.f65.body = some f65b := by kernel_rfl
theorem f65_fn : T20.fn 65 = some Try.f65 := by kernel_rfl
theorem put_s {l lj out V : List Int} {need vm : Nat} {ro : Bool} (hn : need ≤ l.length) (hll : l.length < 100000) (hol : out.length < 100000) (ho : ∀ x ∈ out, 0 ≤ x ∧ x < (V.length : Int)) (hl : V.length < 1000) (hvm : vm = V.length) : SCall Try.prog T20 65 #[(s1 0 l.length), .int .i64 (need : Int), (s1 1 out.length), .func (.func 33) #[] #[.pointer (some ⟨2, 0, none⟩)]] (hq [(uCo (l ++ lj) ro), (inCo out false), some ⟨[Value.slice (some ⟨3, 0, none⟩) vm vm], 24, false⟩, (uCo V false)]) fun v h => v = (s1 4 ((putL V l need out).length)) ∧ h = hq [(uCo (l ++ lj) ro), (inCo out false), some ⟨[Value.slice (some ⟨3, 0, none⟩) vm vm], 24, false⟩, (uCo V false), (uCo (putL V l need out) false)] := by
 refine scall_sd 32 _ 4 kr f65_fn f65_body rfl rfl rfl fun X hX => ?_
 refine sd_run 12 (sd_see 15 (.int .i64 (((l.length - need) : Nat) : Int)) (see_int (x := (IntKind.i64.wrap ((l.length : Int) - (need : Int)))) kr (i64w (by omega) (by omega) (by omega))) (sd_slh 16 24 22 1 0 0 l.length (l.length - need) .i64 kr kr kr kr kr (by first | omega | (simp; done) | (simp; omega)) (sd_firstN 17 24 24 22 0 3 (l.length - need) 4 (s1 0 (l.length - need)) (tab uC (l.take (l.length - need))) (tab uC (l.take (l.length - need))) kr kr kr kr (asrc_ptake (a := l) (b_ := lj) (e := 22) (ro := ro) uC_len kr (by omega)) (by omega) kr rfl (sd_run 12 (sd_see 0 (s1 4 ((putL V l need (out.take 0)).length)) (see_len (n := (l.length - need)) kr (by rw [List.take_zero, ← putL_nil, List.length_take]; omega)) (sd_loop 32 (cl (cl (cr (cl (cr (cr f65b)))))) [.blk 0, .next (cr (cr (cr f65b)))] kr kr kr (fun m9 s9 => ∃ (k : Nat), m9 = out.length - k ∧ (k ≤ out.length) ∧ s9 = ⟨tmL [(0, (s1 4 ((putL V l need (out.take k)).length))), (3, .func (.func 33) #[] #[.pointer (some ⟨2, 0, none⟩)]), (18, (s1 1 out.length)), (19, .int .i64 (out.length : Int)), (20, .int .i64 (k : Int))], hq [(uCo (l ++ lj) ro), (inCo out false), some ⟨[Value.slice (some ⟨3, 0, none⟩) vm vm], 24, false⟩, (uCo V false), (uCo (putL V l need (out.take k)) false)]⟩) (out.length - 0) _ e5_ hX ⟨0, rfl, (by omega), rfl⟩ ⟨sub_of kr kr ⟨uC_b, inC_b, brn, uC_b, bk_flat (tab uC (l.take (l.length - need))) kr (tab_plain uC_pl _) (congrArg (tab uC) (putL_nil V l need)), ⟨⟩⟩, te_of kr kr⟩ kr ?_))))))
 rintro m9 s9 ⟨k, rfl, i1_0, rfl⟩ R1_ hR1_
 have hpl : (putL V l need (out.take k)).length ≤ l.length + k := by unfold putL; rw [List.length_append, List.length_take, List.length_map, List.length_take]; omega
 by_cases hlt : k < out.length
 ·skip
  obtain ⟨a1, ha1⟩ : ∃ x_, (out)[k]? = some x_ := ⟨_, List.getElem?_eq_getElem (by omega)⟩
  obtain ⟨qa1, qa2⟩ := ho _ (List.mem_of_getElem? ha1)
  obtain ⟨X, hX2⟩ := Int.eq_ofNat_of_zero_le qa1
  refine sd_run 3 (sdT 21 ((k : Int) < (out.length : Int)) (by omega) kr (sd_run 10 (sd_ix 22 (.pointer (some ⟨1, 0 + k * 1, none⟩)) k out.length kr kr kr (by omega) (sd_ld 23 (.int .i64 a1) 3 (.pointer (some ⟨1, 0 + k * 1, none⟩)) kr kr kr (ld_cell (l := out) (e := 3) (ro := false) (k := k) (j := 0) inC_len kr kr kr ha1 rfl) (sd_run 7 (sd_see 26 (.int .i64 (X : Int)) (see_int (x := a1) kr hX2) (sdCp 27 33 #[.int .i64 (X : Int), .pointer (some ⟨2, 0, none⟩)] (@get_s V X vm (by omega) hl hvm) [some 2, some 3] ⟨brn, uC_b, ⟨⟩⟩ ?_)))))))
  rintro v9 k9 ⟨rfl, rfl⟩
  refine ⟨rfl, .int .u32 (V.getD X 0), kr, ?_⟩
  refine sd_run 1 (sd_grow 29 24 24 22 0 3 4 ((putL V l need (out.take k)).length) 1 6 (.slice (some ⟨5, 0, none⟩) 1 1) (tab uC (putL V l need (out.take k))) [Value.int .u32 (V.getD X 0)] (tab uC (putL V l need (out.take k) ++ [(V.getD X 0)])) kr kr kr kr kr ((tab_len uC_len _).trans (by first | rfl | (simp only [List.length_append, List.length_cons, List.length_nil, List.length_set] at *; done))) kr kr (by decide) kr (by omega) kr (tab_snoc (putL V l need (out.take k)) (V.getD X 0)) (sd_see 29 (s1 6 ((putL V l need (out.take k) ++ [(V.getD X 0)]).length)) (see_len (n := ((putL V l need (out.take k)).length + 1)) kr (by simp)) (sd_run 6 (sd_see 30 (.int .i64 ((k + 1 : Nat) : Int)) (see_int (x := (IntKind.i64.wrap ((k : Int) + 1))) kr (w64 (by omega) (by omega) (by omega))) (sd_run 2 (sd_see 0 (s1 6 ((putL V l need (out.take (k + 1))).length)) (see_len (n := (putL V l need (out.take k) ++ [(V.getD X 0)]).length) kr (by rw [← putL_succ ha1]; simp)) ?_))))))
  refine sd_inv R1_ kr (hR1_ _ (out.length - (k + 1)) _ (emOf [some 0, some 1, some 2, some 3, some 6]) (by omega) ⟨k + 1, rfl, (by omega), rfl⟩ ⟨sub_of kr kr ⟨uC_b, inC_b, brn, uC_b, bk_flat (tab uC (putL V l need (out.take k) ++ [(V.getD X 0)])) kr (tab_plain uC_pl _) (congrArg (tab uC) (by rw [← putL_succ ha1, show (a1).toNat = X by omega])), ⟨⟩⟩, te_of kr kr⟩ kr)
 ·skip
  obtain rfl : k = out.length := by omega
  refine sd_run 3 (sdF 21 ((out.length : Int) < (out.length : Int)) (by omega) kr (sd_run 16 (sd_see 8 (s1 4 ((putL V l need out).length)) (see_len (n := (putL V l need (out.take out.length)).length) kr (by rw [List.take_length])) ?_)))
  refine sdY (s1 4 ((putL V l need out).length)) hX [(uCo (l ++ lj) ro), (inCo out false), some ⟨[Value.slice (some ⟨3, 0, none⟩) vm vm], 24, false⟩, (uCo V false), (uCo (putL V l need out) false)] i5_ ⟨uC_b, inC_b, brn, uC_b, bk_flat (tab uC (putL V l need (out.take out.length))) kr (tab_plain uC_pl _) (congrArg (tab uC) (by rw [List.take_length])), ⟨⟩⟩ ⟨rfl, rfl⟩
end Ls
end Go.Proofs.Ytgpphhdndmdlgaa
