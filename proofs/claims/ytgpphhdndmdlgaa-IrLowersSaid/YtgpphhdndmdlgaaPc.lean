/- Chapter 19: the document: a plain instruction. -/
import Derived.Test.YtgpphhdndmdlgaaPa
import Derived.Test.YtgpphhdndmdlgaaPb
namespace Go.Proofs.Ytgpphhdndmdlgaa
open Go Go.Ev Go.RowKit
set_option linter.unusedVariables false
set_option linter.unusedSimpArgs false
set_option maxRecDepth 100000
namespace Ls
theorem nil_snoc1 (l : List Int) (h : 1 ≤ l.length) : ∃ e a, l = e ++ [a] := ⟨_, _, snoc_of l h⟩
theorem nil_snoc2 (l : List Int) (h : 2 ≤ l.length) : ∃ e a b, l = e ++ [a, b] := by
 obtain ⟨f, b, rfl⟩ := nil_snoc1 l (by omega)
 obtain ⟨e, a, rfl⟩ := nil_snoc1 f (by simp at h; omega)
 exact ⟨e, a, b, by simp⟩
theorem do_ok {q : Sx} {d dj r rj : List Int} {ka kb : Nat} {op n : Int} {ro : Bool} (hp : plainB op = true) (hri : rightI op n = true) (hdl : d.length ≤ 16) (hrl : r.length ≤ 16) (hfl : 0 ≤ q.fl ∧ q.fl ≤ 15) (hn : 0 ≤ n ∧ n < 4294967296) (hd32 : V32 d) (hc : canM op d.length r.length = true) : SCall Try.prog T20 16 #[(stq q q.pc (.slice (some ⟨0, 0, none⟩) d.length ka) (.slice (some ⟨1, 0, none⟩) r.length kb) q.fl q.cnt), .agg #[.int .i64 op, .int .u32 n], .pointer none, .pointer none] (hq [(uCo (d ++ dj) ro), (uCo (r ++ rj) ro)]) fun v h => ∃ (D1 j1 R1 k1 : List Int) (fl1 pc1 : Int), D1 = doD op n d r ∧ R1 = doRs op (IntKind.u32.wrap (q.pc + sizeZ op)) d r ∧ fl1 = doFl op d q.fl ∧ pc1 = doPc op n (IntKind.u32.wrap (q.pc + sizeZ op)) d r q.fl ∧ v = (rsq q pc1 (s1 2 D1.length) (s1 3 R1.length) fl1 (IntKind.u64.wrap (q.cnt + 1)) false false (.slice none 0 0)) ∧ h = hq [(uCo (d ++ dj) ro), (uCo (r ++ rj) ro), (uCo (D1 ++ j1) false), (uCo (R1 ++ k1) false)] := by
 obtain ⟨h1, h2, h3, h4⟩ := canM_iff.1 hc
 rcases op_lits hp with rfl | rfl | rfl | rfl | rfl | rfl | rfl | rfl | rfl | rfl | rfl | rfl | rfl | rfl | rfl | rfl | rfl | rfl | rfl | rfl | rfl | rfl | rfl | rfl | rfl | rfl | rfl
 ·skip
  obtain rfl : n = 0 := by simpa [rightI, sizeZ, namedB] using hri
  exact pdo_0 (n := 0) hdl hrl hfl hc
 ·skip
  have hn2 : n ≤ 255 := by simpa [rightI, sizeZ, namedB] using hri
  exact pdo_1 hdl hrl hfl hc ⟨hn.1, hn2⟩
 ·skip
  exact pdo_2 hdl hrl hfl hc
 ·skip
  obtain ⟨e, a, rfl⟩ := nil_snoc1 d h1
  obtain rfl : n = 0 := by simpa [rightI, sizeZ, namedB] using hri
  exact pdo_3 (n := 0) hdl hrl hfl hc
 ·skip
  obtain ⟨e, a, rfl⟩ := nil_snoc1 d h1
  obtain rfl : n = 0 := by simpa [rightI, sizeZ, namedB] using hri
  exact pdo_4 (n := 0) hdl hrl hfl hc
 ·skip
  obtain ⟨e, a, b, rfl⟩ := nil_snoc2 d h1
  obtain rfl : n = 0 := by simpa [rightI, sizeZ, namedB] using hri
  exact pdo_5 (n := 0) hdl hrl hfl hc
 ·skip
  obtain ⟨e, a, b, rfl⟩ := nil_snoc2 d h1
  obtain rfl : n = 0 := by simpa [rightI, sizeZ, namedB] using hri
  exact pdo_6 (n := 0) hdl hrl hfl hc
 ·skip
  obtain ⟨e, a, rfl⟩ := nil_snoc1 d h1
  obtain rfl : n = 0 := by simpa [rightI, sizeZ, namedB] using hri
  exact pdo_7 (n := 0) hdl hrl hfl hc
 ·skip
  obtain ⟨f, c, rfl⟩ := nil_snoc1 r h2
  obtain rfl : n = 0 := by simpa [rightI, sizeZ, namedB] using hri
  exact pdo_8 (n := 0) hdl hrl hfl hc
 ·skip
  obtain ⟨e, a, b, rfl⟩ := nil_snoc2 d h1
  obtain rfl : n = 0 := by simpa [rightI, sizeZ, namedB] using hri
  exact pdo_alu (n := 0) (by omega) hdl hrl hfl hc (hd32 a (by simp)) (hd32 b (by simp))
 ·skip
  obtain ⟨e, a, b, rfl⟩ := nil_snoc2 d h1
  obtain rfl : n = 0 := by simpa [rightI, sizeZ, namedB] using hri
  exact pdo_alu (n := 0) (by omega) hdl hrl hfl hc (hd32 a (by simp)) (hd32 b (by simp))
 ·skip
  obtain ⟨e, a, b, rfl⟩ := nil_snoc2 d h1
  obtain rfl : n = 0 := by simpa [rightI, sizeZ, namedB] using hri
  exact pdo_alu (n := 0) (by omega) hdl hrl hfl hc (hd32 a (by simp)) (hd32 b (by simp))
 ·skip
  obtain ⟨e, a, b, rfl⟩ := nil_snoc2 d h1
  obtain rfl : n = 0 := by simpa [rightI, sizeZ, namedB] using hri
  exact pdo_alu (n := 0) (by omega) hdl hrl hfl hc (hd32 a (by simp)) (hd32 b (by simp))
 ·skip
  obtain ⟨e, a, b, rfl⟩ := nil_snoc2 d h1
  obtain rfl : n = 0 := by simpa [rightI, sizeZ, namedB] using hri
  exact pdo_alu (n := 0) (by omega) hdl hrl hfl hc (hd32 a (by simp)) (hd32 b (by simp))
 ·skip
  obtain ⟨e, a, b, rfl⟩ := nil_snoc2 d h1
  obtain rfl : n = 0 := by simpa [rightI, sizeZ, namedB] using hri
  exact pdo_alu (n := 0) (by omega) hdl hrl hfl hc (hd32 a (by simp)) (hd32 b (by simp))
 ·skip
  obtain ⟨e, a, b, rfl⟩ := nil_snoc2 d h1
  obtain rfl : n = 0 := by simpa [rightI, sizeZ, namedB] using hri
  exact pdo_alu (n := 0) (by omega) hdl hrl hfl hc (hd32 a (by simp)) (hd32 b (by simp))
 ·skip
  obtain ⟨e, a, b, rfl⟩ := nil_snoc2 d h1
  obtain rfl : n = 0 := by simpa [rightI, sizeZ, namedB] using hri
  exact pdo_alu (n := 0) (by omega) hdl hrl hfl hc (hd32 a (by simp)) (hd32 b (by simp))
 ·skip
  obtain ⟨e, a, b, rfl⟩ := nil_snoc2 d h1
  obtain rfl : n = 0 := by simpa [rightI, sizeZ, namedB] using hri
  exact pdo_25 (n := 0) hdl hrl hfl hc (hd32 a (by simp)) (hd32 b (by simp))
 ·skip
  have hn2 : n ≤ 255 := by simpa [rightI, sizeZ, namedB] using hri
  exact pdo_32 hdl hrl hfl hc ⟨hn.1, hn2⟩
 ·skip
  have hn2 : n ≤ 255 := by simpa [rightI, sizeZ, namedB] using hri
  exact pdo_jcc (by omega) hdl hrl hfl hc ⟨hn.1, hn2⟩
 ·skip
  have hn2 : n ≤ 255 := by simpa [rightI, sizeZ, namedB] using hri
  exact pdo_jcc (by omega) hdl hrl hfl hc ⟨hn.1, hn2⟩
 ·skip
  have hn2 : n ≤ 255 := by simpa [rightI, sizeZ, namedB] using hri
  exact pdo_jcc (by omega) hdl hrl hfl hc ⟨hn.1, hn2⟩
 ·skip
  have hn2 : n ≤ 255 := by simpa [rightI, sizeZ, namedB] using hri
  exact pdo_jcc (by omega) hdl hrl hfl hc ⟨hn.1, hn2⟩
 ·skip
  have hn2 : n ≤ 255 := by simpa [rightI, sizeZ, namedB] using hri
  exact pdo_jcc (by omega) hdl hrl hfl hc ⟨hn.1, hn2⟩
 ·skip
  have hn2 : n ≤ 255 := by simpa [rightI, sizeZ, namedB] using hri
  exact pdo_38 hdl hrl hfl hc ⟨hn.1, hn2⟩
 ·skip
  obtain ⟨f, c, rfl⟩ := nil_snoc1 r h2
  obtain rfl : n = 0 := by simpa [rightI, sizeZ, namedB] using hri
  exact pdo_39 (n := 0) hdl hrl hfl hc
 ·skip
  obtain ⟨e, a, rfl⟩ := nil_snoc1 d h1
  obtain rfl : n = 0 := by simpa [rightI, sizeZ, namedB] using hri
  exact pdo_40 (n := 0) hdl hrl hfl hc
end Ls
end Go.Proofs.Ytgpphhdndmdlgaa
