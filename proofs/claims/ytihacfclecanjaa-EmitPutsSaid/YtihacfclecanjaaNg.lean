/- Chapter 22: puts and gets, for all. -/
import Derived.Test.YtihacfclecanjaaNc
import Derived.Test.YtihacfclecanjaaNe
import Derived.Test.YtihacfclecanjaaNf
namespace Go.Proofs.Ytihacfclecanjaa
open Go Go.Ev Go.RowKit
set_option linter.unusedVariables false
set_option linter.unusedSimpArgs false
set_option maxRecDepth 100000
namespace Ls
theorem eput_any {g0 g1 g2 g3 g4 g5 g6 g7 g8 g9 g10 g11 g12 g13 g14 g15 at9 : Int} {M : List Int} {K : List II} {kw kc wn : Nat} {q : Sx} {d dj r rj : List Int} {ro : Bool} {ka kb : Nat} (hwn : M.length = wn) (h256 : wn = 256) (hM : W32 M) (hd32 : V32 d) (hr32 : V32 r) (hpc9 : 0 ≤ q.pc ∧ q.pc < 4294967296) (hfl : 0 ≤ q.fl ∧ q.fl < 4294967296) : SCall Try.prog T15 12 #[.pointer (some ⟨0, 0, none⟩), (stq q q.pc (.slice (some ⟨3, 0, none⟩) d.length ka) (.slice (some ⟨4, 0, none⟩) r.length kb) q.fl q.cnt)] (hq [some ⟨[Value.int .u64 g0, .int .u64 g1, .int .u64 g2, .int .u64 g3, .int .u64 g4, .int .u64 g5, .int .u64 g6, .int .u64 g7, .int .u64 g8, .int .u64 g9, .int .u64 g10, .int .u64 g11, .int .u64 g12, .int .u64 g13, .int .u64 g14, .int .u64 g15, .slice (some ⟨1, 0, none⟩) wn kw, .slice (some ⟨2, 0, none⟩) K.length kc, .int .i64 at9], 86, false⟩, (uCo M false), (hhCo K false), (uCo (d ++ dj) ro), (uCo (r ++ rj) ro)]) fun v h => ∃ (M1 : List Int), M1.length = wn ∧ W32 M1 ∧ v = .bool (stOk d r q.fl) ∧ h = hq [some ⟨[Value.int .u64 g0, .int .u64 g1, .int .u64 g2, .int .u64 g3, .int .u64 g4, .int .u64 g5, .int .u64 g6, .int .u64 g7, .int .u64 g8, .int .u64 g9, .int .u64 g10, .int .u64 g11, .int .u64 g12, .int .u64 g13, .int .u64 g14, .int .u64 g15, .slice (some ⟨1, 0, none⟩) wn kw, .slice (some ⟨2, 0, none⟩) K.length kc, .int .i64 at9], 86, false⟩, (uCo M1 false), (hhCo K false), (uCo (d ++ dj) ro), (uCo (r ++ rj) ro)] := by
 by_cases hok : stOk d r q.fl = true
 ·have hok9 := hok
  simp only [stOk, Bool.and_eq_true, decide_eq_true_eq] at hok9
  refine (eput_ok hwn h256 hok).mono fun v k h => ⟨_, ?_, ?_, h.1.trans (by rw [hok]), h.2⟩
  ·simpa using hwn
  ·exact hM.put (by omega) hd32 hr32 hok9.1 hok9.2.1 hpc9 hfl
 ·have hok2 := eq_false_of_ne_true hok
  exact (eput_no (by omega) (fun h => hok h.2)).mono fun v k h => ⟨M, hwn, hM, h.1.trans (by rw [hok2]), h.2⟩
theorem eget_as {g0 g1 g2 g3 g4 g5 g6 g7 g8 g9 g10 g11 g12 g13 g14 g15 at9 : Int} {M : List Int} {K : List II} {kw kc wn : Nat} {n2 n3 : Nat} {pc1 fl1 cnt1 : Int} {D1 R1 : List Int} {q : Sx} {d dj r rj : List Int} {ro : Bool} {ka kb : Nat} (hwn : M.length = wn) (hdb : d.length * 4 ≤ 140737488355328) (hrb : r.length * 4 ≤ 140737488355328) (hM : ∀ i, 0 ≤ M.getD i 0 ∧ M.getD i 0 < 4294967296) (h256 : wn = 256) (h2 : (M.getD 2 0) = (n2 : Int)) (h3 : (M.getD 3 0) = (n3 : Int)) (h2b : n2 ≤ 16) (h3b : n3 ≤ 16) (h1 : (M.getD 1 0) ≤ 15) (hD : takeM M 4 n2 = D1) (hR : takeM M 20 n3 = R1) (hpc : (M.getD 0 0) = pc1) (hfl : (M.getD 1 0) = fl1) (hct : IntKind.u64.wrap (q.cnt + (M.getD 36 0)) = cnt1) : SCall Try.prog T15 14 #[.pointer (some ⟨0, 0, none⟩), (stq q q.pc (.slice (some ⟨3, 0, none⟩) d.length ka) (.slice (some ⟨4, 0, none⟩) r.length kb) q.fl q.cnt)] (hq [some ⟨[Value.int .u64 g0, .int .u64 g1, .int .u64 g2, .int .u64 g3, .int .u64 g4, .int .u64 g5, .int .u64 g6, .int .u64 g7, .int .u64 g8, .int .u64 g9, .int .u64 g10, .int .u64 g11, .int .u64 g12, .int .u64 g13, .int .u64 g14, .int .u64 g15, .slice (some ⟨1, 0, none⟩) wn kw, .slice (some ⟨2, 0, none⟩) K.length kc, .int .i64 at9], 86, false⟩, (uCo M false), (hhCo K false), (uCo (d ++ dj) ro), (uCo (r ++ rj) ro)]) fun v h => v = .tuple #[(stq q pc1 (s1 5 D1.length) (s1 6 R1.length) fl1 cnt1), .bool true] ∧ h = hq [some ⟨[Value.int .u64 g0, .int .u64 g1, .int .u64 g2, .int .u64 g3, .int .u64 g4, .int .u64 g5, .int .u64 g6, .int .u64 g7, .int .u64 g8, .int .u64 g9, .int .u64 g10, .int .u64 g11, .int .u64 g12, .int .u64 g13, .int .u64 g14, .int .u64 g15, .slice (some ⟨1, 0, none⟩) wn kw, .slice (some ⟨2, 0, none⟩) K.length kc, .int .i64 at9], 86, false⟩, (uCo M false), (hhCo K false), (uCo (d ++ dj) ro), (uCo (r ++ rj) ro), (uCo D1 false), (uCo R1 false)] := by
 have h := eget_ok (q := q) (d := d) (dj := dj) (r := r) (rj := rj) (ro := ro) (ka := ka) (kb := kb) (K := K) (kw := kw) (kc := kc) (at9 := at9) (g0 := g0) (g1 := g1) (g2 := g2) (g3 := g3) (g4 := g4) (g5 := g5) (g6 := g6) (g7 := g7) (g8 := g8) (g9 := g9) (g10 := g10) (g11 := g11) (g12 := g12) (g13 := g13) (g14 := g14) (g15 := g15) hwn hdb hrb hM h256 h2 h3 h2b h3b h1
 rw [hD, hR, hpc, hfl, hct] at h
 exact h
end Ls
end Go.Proofs.Ytihacfclecanjaa
