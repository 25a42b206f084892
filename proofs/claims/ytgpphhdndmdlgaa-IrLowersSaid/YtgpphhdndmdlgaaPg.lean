/- Chapter 19: rows of instructions that are drawn, lowered. -/
import Derived.Test.YtgpphhdndmdlgaaPf
import Derived.Test.YtgpphhdndmdlgaaPk
namespace Go.Proofs.Ytgpphhdndmdlgaa
open Go Go.Ev Go.RowKit
set_option linter.unusedVariables false
set_option linter.unusedSimpArgs false
set_option maxRecDepth 100000
namespace Ls
set_option maxHeartbeats 1000000 in
theorem lowers_nil {l : List (Int × Int)} {pc : Int} {kc : Nat} {q : Sx} {d dj r rj : List Int} {ro : Bool} (hl0 : l.length = 0) : SCall Try.prog T20 9 #[.int .u32 pc, .slice (some ⟨0, 0, none⟩) l.length kc, (stq q q.pc (s1 1 d.length) (s1 2 r.length) q.fl q.cnt)] (hq [(jjCo l false), (uCo (d ++ dj) ro), (uCo (r ++ rj) ro)]) fun v h => v = .bool true ∧ h = hq [(jjCo l false), (uCo (d ++ dj) ro), (uCo (r ++ rj) ro)] := by
 refine scall_sd 210 _ 3 kr f9_fn f9_body rfl rfl rfl fun X hX => ?_
 refine sd_run 23 (sdT 13 ((l.length : Int) < 1) (by omega) kr (sd_run 31 (sdF 26 ((l.length : Int) ≥ 1) (by omega) kr (sd_run 23 (sdF 35 ((0 : Int) < (l.length : Int)) (by omega) kr (sd_run 36 ?_))))))
 refine sdY (.bool true) hX [(jjCo l false), (uCo (d ++ dj) ro), (uCo (r ++ rj) ro)] i3_ ⟨jjC_b, uC_b, uC_b, ⟨⟩⟩ ⟨rfl, rfl⟩
theorem lowers_any {l : List (Int × Int)} {pc : Int} {kc : Nat} {q : Sx} {d dj r rj : List Int} {ro : Bool} (hlo : LowI l) (hdl : d.length ≤ 16) (hrl : r.length ≤ 16) (hd32 : V32 d) (hr32 : V32 r) (hfl : 0 ≤ q.fl ∧ q.fl ≤ 15) (hcn : 0 ≤ q.cnt ∧ q.cnt < 18446744073709551616) : SCall Try.prog T20 9 #[.int .u32 pc, .slice (some ⟨0, 0, none⟩) l.length kc, (stq q q.pc (s1 1 d.length) (s1 2 r.length) q.fl q.cnt)] (hq [(jjCo l false), (uCo (d ++ dj) ro), (uCo (r ++ rj) ro)]) fun v h => v = .bool true ∧ h = hq [(jjCo l false), (uCo (d ++ dj) ro), (uCo (r ++ rj) ro)] := by
 rcases hlo.ok with h | h
 ·exact lowers_nil h
 ·exact lowers_s h hlo.imm hdl hrl hd32 hr32 hfl hcn
end Ls
end Go.Proofs.Ytgpphhdndmdlgaa
