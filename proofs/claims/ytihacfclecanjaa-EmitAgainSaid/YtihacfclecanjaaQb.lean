/- Chapter 22: instructions as bytes. -/
import Derived.Test.YtihacfclecanjaaQa
set_option linter.unusedVariables false
set_option linter.unusedSimpArgs false
namespace Go.Proofs.Ytihacfclecanjaa
open Go Go.Ev Go.RowKit
set_option maxRecDepth 100000
namespace Ls
def ebC (x : Int × Int × Int × Int × Int) : List Value := [.int .u8 x.1, .int .u8 x.2.1, .int .u8 x.2.2.1, .int .u8 x.2.2.2.1, .int .u8 (x.2.2.2.2 % 256), .int .u8 (x.2.2.2.2 / 256 % 256), .int .u8 (x.2.2.2.2 / 65536 % 256), .int .u8 (x.2.2.2.2 / 16777216 % 256)]
theorem ebC_len : ∀ x, (ebC x).length = 8 := fun _ => rfl
theorem ebC_pl : ∀ x, (ebC x).all plain = true := fun _ => rfl
theorem u8_in {x : Int} (h0 : 0 ≤ x) (h1 : x < 256) : IntKind.u8.wrap x = x := by rw [IntKind.wrap_u8]; omega
theorem u8_fd (x : Int) {n : Int} (h : 0 ≤ n) : IntKind.u8.wrap (Int.fdiv x n) = x / n % 256 := by rw [IntKind.wrap_u8, Int.fdiv_eq_ediv_of_nonneg _ h]
abbrev ebCo (l : List (Int × Int × Int × Int × Int)) (ro : Bool) : Option Ob := some ⟨tab ebC l, 5, ro⟩
theorem ebC_b {f : Em} {h : Heap} {c e : Nat} {l : List (Int × Int × Int × Int × Int)} {ro : Bool} (h1 : h.get c = some ⟨tab ebC l, e, ro⟩ := by kernel_rfl) : Bk f h c ⟨tab ebC l, e, ro⟩ := bk_flat _ h1 (tab_plain ebC_pl _) rfl
theorem ebC_c {f : Em} {k k1 h : Heap} {c e : Nat} {l : List (Int × Int × Int × Int × Int)} {ro : Bool} (b : Nat) (h0 : (b.blt k1.n && isNm (f.ext k.n h.n) b c) = true := by kernel_rfl) (h1 : k1.get b = some ⟨tab ebC l, e, ro⟩ := by kernel_rfl) : CovAt f k k1 h c ⟨tab ebC l, e, ro⟩ := cov_flat b h0 h1 (tab_plain ebC_pl _)
def hrI (x : II) : Prop := hrB x.1 x.2.1 x.2.2.1 x.2.2.2.1 x.2.2.2.2 = true ∧ u32P x.2.2.2.2
def AllR (l : List II) : Prop := ∀ x ∈ l, hrI x
theorem hr_reg {op rd ra rb im : Int} (h : hrB op rd ra rb im = true) : (0 ≤ op ∧ op < 20) ∧ (0 ≤ rd ∧ rd < 16) ∧ (0 ≤ ra ∧ ra < 16) ∧ (0 ≤ rb ∧ rb < 16) := by
 unfold hrB regB at h;simp only [Bool.and_eq_true, decide_eq_true_eq] at h;obtain ⟨h1, h2, h3, h4⟩ := h;refine ⟨?_, h2, h3, h4⟩
 repeat' split at h1
 all_goals first | omega | (cases h1)
theorem take_one {α : Type} {l : List α} {k : Nat} {x : α} (h : l[k]? = some x) : l.take (k + 1) = l.take k ++ [x] := by rw [List.take_add_one, h]; rfl
noncomputable def f51b : Code := Try.f51.body.getD .skip
theorem hjoin_s {l : List II} (hll : l.length < 100000) (hr : AllR l) : SCall Try.prog T15 51 #[(s5 0 l.length)] (hq [(hhF l)]) fun v h => v = .tuple #[(s1 1 (8 * l.length)), jI 0] ∧ h = hq [(hhF l), (ebCo l false)] := by
 refine zS Try.f51 f51b 48 1 fun X hX => ?_
 refine sd_run 20 ?_;refine sd_loop 48 (cl (cl (cr (cl (cr (cr f51b)))))) [.blk 0, .next (cr (cr (cr f51b)))] kr kr kr (fun m9 s9 => ∃ (k : Nat), m9 = l.length - k ∧ (k ≤ l.length) ∧ s9 = ⟨tmL [(4, (s1 1 (8 * k))), (7, (s5 0 l.length)), (8, jN l.length), (9, jI (k : Int))], hq [(hhF l), (ebCo (l.take k) false)]⟩) (l.length - 0) _ (emOf [some 0, none]) hX ⟨0, rfl, zo, rfl⟩ ⟨zs, zt⟩ kr ?_;rintro m9 s9 ⟨k, rfl, i1_0, rfl⟩ R1_ hR1_
 by_cases hlt : k < l.length
 ·obtain ⟨a1, ha1⟩ := zR l k;have hx9 := hr _ (List.mem_of_getElem? ha1);obtain ⟨h91, h92, h93, h94⟩ := hr_reg hx9.1;have h95 := hx9.2.1; have h96 := hx9.2.2;refine zT 3 10 ((k : Int) < (l.length : Int)) (zX 10 11 (pT 0 (0 + k * 5)) k l.length (zM 0 12 108 0 108 false hhC_len ha1 (sd_run 8 (sd_ask 14 (.bool (hrB a1.1 a1.2.1 a1.2.2.1 a1.2.2.2.1 a1.2.2.2.2)) 87 #[.agg #[jI a1.1, jI a1.2.1, jI a1.2.2.1, jI a1.2.2.2.1, jU a1.2.2.2.2]] kr kr kr rfl (sd_see 14 (.bool true) (see_bool kr hx9.1) ?_)))));refine sd_run 11 (sd_see 19 (.int .u8 a1.1) (see_int (x := (IntKind.u8.wrap a1.1)) kr (by first | exact u8_in zo zo | exact u8_fd _ (by decide) | exact IntKind.wrap_u8 _)) (sd_run 3 (sd_see 22 (.int .u8 a1.2.1) (see_int (x := (IntKind.u8.wrap a1.2.1)) kr (by first | exact u8_in zo zo | exact u8_fd _ (by decide) | exact IntKind.wrap_u8 _)) (sd_run 3 (sd_see 25 (.int .u8 a1.2.2.1) (see_int (x := (IntKind.u8.wrap a1.2.2.1)) kr (by first | exact u8_in zo zo | exact u8_fd _ (by decide) | exact IntKind.wrap_u8 _)) (sd_run 3 (sd_see 28 (.int .u8 a1.2.2.2.1) (see_int (x := (IntKind.u8.wrap a1.2.2.2.1)) kr (by first | exact u8_in zo zo | exact u8_fd _ (by decide) | exact IntKind.wrap_u8 _)) ?_)))))))
  refine sd_run 3 (sd_see 31 (.int .u8 (a1.2.2.2.2 % 256)) (see_int (x := (IntKind.u8.wrap a1.2.2.2.2)) kr (by first | exact u8_in zo zo | exact u8_fd _ (by decide) | exact IntKind.wrap_u8 _)) (sd_run 4 (sd_see 35 (.int .u8 (a1.2.2.2.2 / 256 % 256)) (see_int (x := (IntKind.u8.wrap (Int.fdiv a1.2.2.2.2 256))) kr (by first | exact u8_in zo zo | exact u8_fd _ (by decide) | exact IntKind.wrap_u8 _)) (sd_run 4 (sd_see 39 (.int .u8 (a1.2.2.2.2 / 65536 % 256)) (see_int (x := (IntKind.u8.wrap (Int.fdiv a1.2.2.2.2 65536))) kr (by first | exact u8_in zo zo | exact u8_fd _ (by decide) | exact IntKind.wrap_u8 _)) (sd_run 4 (sd_see 43 (.int .u8 (a1.2.2.2.2 / 16777216 % 256)) (see_int (x := (IntKind.u8.wrap (Int.fdiv a1.2.2.2.2 16777216))) kr (by first | exact u8_in zo zo | exact u8_fd _ (by decide) | exact IntKind.wrap_u8 _)) ?_)))))));refine sd_run 1 (sd_grow 45 56 56 5 0 0 1 (8 * k) 8 4 (sK 3 8 8) (tab ebC (l.take k)) [Value.int .u8 a1.1, .int .u8 a1.2.1, .int .u8 a1.2.2.1, .int .u8 a1.2.2.2.1, .int .u8 (a1.2.2.2.2 % 256), .int .u8 (a1.2.2.2.2 / 256 % 256), .int .u8 (a1.2.2.2.2 / 65536 % 256), .int .u8 (a1.2.2.2.2 / 16777216 % 256)] (tab ebC ((l.take k) ++ [a1])) kr kr kr kr kr ((tab_len ebC_len _).trans (by simp; omega)) kr kr (by decide) kr zo kr (tab_snoc (l.take k) a1) (sd_see 45 (s1 4 (8 * (k + 1))) (see_len (n := ((8 * k) + 8)) kr zo) (zI 6 46 .i64 ((k + 1 : Nat) : Int) (IntKind.i64.wrap ((k : Int) + 1)) (sd_run 2 ?_))))
  refine sd_inv R1_ kr (hR1_ _ (l.length - (k + 1)) _ (emOf [some 0, some 4]) zo ⟨k + 1, rfl, zo, rfl⟩ ⟨sub_of kr kr ⟨hhC_b, bk_flat (tab ebC ((l.take k) ++ [a1])) kr (tab_plain ebC_pl _) (congrArg (tab ebC) (take_one ha1).symm), ⟨⟩⟩, zt⟩ kr)
 ·obtain rfl : k = l.length := by omega
  refine zF 3 10 ((l.length : Int) < (l.length : Int)) (sd_run 17 ?_);refine sdY (.tuple #[(s1 1 (8 * l.length)), jI 0]) hX [(hhF l), (ebCo l false)] i2_ ⟨hhC_b, bk_flat (tab ebC (l.take l.length)) kr (tab_plain ebC_pl _) (congrArg (tab ebC) List.take_length), ⟨⟩⟩ ⟨rfl, rfl⟩
end Ls
end Go.Proofs.Ytihacfclecanjaa
