/- Chapter 22: puts and gets, for all. -/
import Derived.Test.YtihacfclecanjaaNc
import Derived.Test.YtihacfclecanjaaNe
import Derived.Test.YtihacfclecanjaaNf
set_option linter.unusedVariables false
set_option linter.unusedSimpArgs false
namespace Go.Proofs.Ytihacfclecanjaa
open Go Go.Ev Go.RowKit
set_option maxRecDepth 100000
namespace Ls
theorem eget_as {g0 g1 g2 g3 g4 g5 g6 g7 g8 g9 g10 g11 g12 g13 g14 g15 at9 : Int} {M : List Int} {K : List II} {kw kc wn : Nat} {n2 n3 : Nat} {pc1 fl1 cnt1 : Int} {D1 R1 : List Int} {q : Sx} {d dj r rj : List Int} {ro : Bool} {ka kb : Nat} (hwn : M.length = wn) (hdb : d.length * 4 ≤ 140737488355328) (hrb : r.length * 4 ≤ 140737488355328) (hM : ∀ i, 0 ≤ M.getD i 0 ∧ M.getD i 0 < 4294967296) (h256 : wn = 256) (h2 : (M.getD 2 0) = (n2 : Int)) (h3 : (M.getD 3 0) = (n3 : Int)) (h2b : n2 ≤ 16) (h3b : n3 ≤ 16) (h1 : (M.getD 1 0) ≤ 15) (hD : takeM M 4 n2 = D1) (hR : takeM M 20 n3 = R1) (hpc : (M.getD 0 0) = pc1) (hfl : (M.getD 1 0) = fl1) (hct : IntKind.u64.wrap (q.cnt + (M.getD 36 0)) = cnt1) : SCall Try.prog T15 14 #[pT 0 0, (stq q q.pc (sK 3 d.length ka) (sK 4 r.length kb) q.fl q.cnt)] (hq [oB 86 (mcL g0 g1 g2 g3 g4 g5 g6 g7 g8 g9 g10 g11 g12 g13 g14 g15 (sK 1 wn kw) (sK 2 K.length kc) at9), (uF M), (hhF K), (uCo (d ++ dj) ro), (uCo (r ++ rj) ro)]) fun v h => v = .tuple #[(stq q pc1 (s1 5 D1.length) (s1 6 R1.length) fl1 cnt1), .bool true] ∧ h = hq [oB 86 (mcL g0 g1 g2 g3 g4 g5 g6 g7 g8 g9 g10 g11 g12 g13 g14 g15 (sK 1 wn kw) (sK 2 K.length kc) at9), (uF M), (hhF K), (uCo (d ++ dj) ro), (uCo (r ++ rj) ro), (uF D1), (uF R1)] := by
 have h := eget_ok (q := q) (d := d) (dj := dj) (r := r) (rj := rj) (ro := ro) (ka := ka) (kb := kb) (K := K) (kw := kw) (kc := kc) (at9 := at9) (g0 := g0) (g1 := g1) (g2 := g2) (g3 := g3) (g4 := g4) (g5 := g5) (g6 := g6) (g7 := g7) (g8 := g8) (g9 := g9) (g10 := g10) (g11 := g11) (g12 := g12) (g13 := g13) (g14 := g14) (g15 := g15) hwn hdb hrb hM h256 h2 h3 h2b h3b h1;rw [hD, hR, hpc, hfl, hct] at h;exact h
end Ls
end Go.Proofs.Ytihacfclecanjaa
