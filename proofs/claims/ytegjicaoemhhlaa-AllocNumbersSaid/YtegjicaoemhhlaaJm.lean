/- Chapter 21: a value goes to memory. -/
import Derived.Test.YtegjicaoemhhlaaJk
namespace Go.Proofs.Ytegjicaoemhhlaa
open Go Go.Ev Go.RowKit
set_option linter.unusedVariables false
set_option linter.unusedSimpArgs false
set_option maxRecDepth 100000
namespace Ls
noncomputable def f29b : Code := Try.f29.body.getD .skip
theorem f29_body : Try.f29.body = some f29b := by kernel_rfl
theorem f29_fn : T16.fn 29 = some Try.f29 := by kernel_rfl
theorem spill_s {rg sl : List Int} {l : List IV} {N m : Nat} {slots : Int} (hr : m = rg.length) (hs : m = sl.length) (hl : m = l.length) (hn : N < m) (hml : m < 1099511627776) (h0 : 0 ≤ slots ∧ slots < 1099511627776) : SCall Try.prog T16 29 #[.pointer (some ⟨0, 0, none⟩), .int .i64 (N : Int)] (hq [some ⟨[Value.slice (some ⟨1, 0, none⟩) m m, .slice (some ⟨2, 0, none⟩) m m, .int .i64 slots, .slice (some ⟨3, 0, none⟩) m (unk + 3)], 68, false⟩, (inCo rg false), (inCo sl false), (ivCo l false)]) fun v h => v = .tuple #[] ∧ h = hq [some ⟨[Value.slice (some ⟨1, 0, none⟩) m m, .slice (some ⟨2, 0, none⟩) m m, .int .i64 (max slots (((freeK l sl N : Nat) : Int) + 1)), .slice (some ⟨3, 0, none⟩) m (unk + 3)], 68, false⟩, (inCo (rg.set N (-1)) false), (inCo (sl.set N ((freeK l sl N : Nat) : Int)) false), (ivCo l false)] := by
 have hfk := freeK_le l sl N
 refine scall_sd 45 _ 4 kr f29_fn f29_body rfl rfl rfl fun X hX => ?_
 refine sd_run 8 (sd_ix 10 (.pointer (some ⟨1, 0 + N * 1, none⟩)) N m kr kr kr (by omega) ?_)
 obtain ⟨a1, ha1⟩ : ∃ x_, (rg)[N]? = some x_ := ⟨_, List.getElem?_eq_getElem (by first | omega | (simp; omega))⟩
 refine sd_st 3 1 (0 + N * 1) (.int .i64 (-1)) (tab inC ((rg).set N (-1))) (cells := tab inC rg) (e := 3) kr kr kr kr (st_cell (k := N) (j := 0) (a' := (-1)) inC_len kr kr ha1 kr rfl) (sd_run 3 (sd_drawQ [(4, 13)] kr kr ?_))
 refine sq_run 4 ?_
 refine sq_rd 15 (.slice (some ⟨2, 0, none⟩) m m) (.pointer (some ⟨0, 1, none⟩)) 22 kr kr kr kr (veq_slice _ _ _) kr ?_
 refine sq_run 8 ?_
 refine sq_callp 24 27 #[.pointer (some ⟨0, 0, none⟩), .slice (some ⟨2, 0, none⟩) m m, .int .i64 (N : Int)] (@free2_s (rg.set N (-1)) sl l N m slots (by simp; exact hr) hs hl hn hml) [some 0, some 1, some 2, some 3] kr kr kr (hn_of 0 kr ⟨brn, bk_flat (tab inC ((rg).set N (-1))) kr (tab_plain inC_pl _) (by rfl), inC_b, ivC_b, ⟨⟩⟩) kr ⟨kr, kr, kr⟩ ?_
 rintro v9 k9 ⟨rfl, rfl⟩
 refine ⟨rfl, .int .i64 (((freeK l sl N) : Nat) : Int), kr, ?_⟩
 refine sq_ix 25 (.pointer (some ⟨2, 0 + N * 1, none⟩)) N m kr kr kr (by omega) kr ?_
 obtain ⟨a2, ha2⟩ : ∃ x_, (sl)[N]? = some x_ := ⟨_, List.getElem?_eq_getElem (by first | omega | (simp; omega))⟩
 refine sq_st 3 2 (0 + N * 1) (.int .i64 (((freeK l sl N) : Nat) : Int)) (tab inC ((sl).set N (((freeK l sl N) : Nat) : Int))) (cells := tab inC sl) (e := 3) kr kr kr kr kr kr (st_cell (k := N) (j := 0) (a' := (((freeK l sl N) : Nat) : Int)) inC_len kr kr ha2 kr rfl) ⟨kr, kr, kr⟩ ?_
 refine sq_end kr ?_
 refine sd_run 14 (sd_ix 38 (.pointer (some ⟨2, 0 + N * 1, none⟩)) N m kr kr kr (by omega) ?_)
 obtain ⟨a3, ha3⟩ : ∃ x_, ((sl).set N (((freeK l sl N) : Nat) : Int))[N]? = some x_ := ⟨_, List.getElem?_eq_getElem (by first | omega | (simp; omega))⟩
 refine sd_ld 39 (.int .i64 a3) 3 (.pointer (some ⟨2, 0 + N * 1, none⟩)) kr kr kr (ld_cell (l := ((sl).set N (((freeK l sl N) : Nat) : Int))) (e := 3) (ro := false) (k := N) (j := 0) inC_len kr kr kr ha3 rfl) (sd_see 39 (.int .i64 (((freeK l sl N) : Nat) : Int)) (see_int (x := a3) kr (by have q := ha3; rw [List.getElem?_set_self (by omega)] at q; exact (Option.some.inj q).symm)) (sd_run 1 (sd_see 40 (.int .i64 (((freeK l sl N) + 1 : Nat) : Int)) (see_int (x := (IntKind.i64.wrap ((((freeK l sl N) : Nat) : Int) + 1))) kr (w64 (by omega) (by omega) (by omega))) (sd_run 1 (sd_see 41 (.int .i64 (max slots (((freeK l sl N) + 1 : Nat) : Int))) (see_int (x := (if (((freeK l sl N) + 1 : Nat) : Int) > slots then (((freeK l sl N) + 1 : Nat) : Int) else slots)) kr (by split <;> omega)) (sd_run 5 ?_))))))
 refine sdY (.tuple #[]) hX [some ⟨[Value.slice (some ⟨1, 0, none⟩) m m, .slice (some ⟨2, 0, none⟩) m m, .int .i64 (max slots (((freeK l sl N : Nat) : Int) + 1)), .slice (some ⟨3, 0, none⟩) m (unk + 3)], 68, false⟩, (inCo (rg.set N (-1)) false), (inCo (sl.set N ((freeK l sl N : Nat) : Int)) false), (ivCo l false)] i4_ ⟨brn, bk_flat (tab inC ((rg).set N (-1))) kr (tab_plain inC_pl _) (by rfl), bk_flat (tab inC ((sl).set N (((freeK l sl N) : Nat) : Int))) kr (tab_plain inC_pl _) (by rfl), ivC_b, ⟨⟩⟩ ⟨rfl, rfl⟩
end Ls
end Go.Proofs.Ytegjicaoemhhlaa
