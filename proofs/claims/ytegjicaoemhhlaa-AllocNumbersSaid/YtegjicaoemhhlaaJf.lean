/- Chapter 21: states that are the same; a state that is right. -/
import Derived.Test.YtegjicaoemhhlaaJe
namespace Go.Proofs.Ytegjicaoemhhlaa
open Go Go.Ev Go.RowKit
set_option linter.unusedVariables false
set_option linter.unusedSimpArgs false
set_option maxRecDepth 100000
namespace Ls
noncomputable def f56b : Code := Try.f56.body.getD .skip
theorem f56_body : Try.f56.body = some f56b := by kernel_rfl
theorem f56_fn : T16.fn 56 = some Try.f56 := by kernel_rfl
theorem same_t {l lj lk : List Int} {ro ro2 : Bool} {ka kb : Nat} (hl : l.length < 4611686018427387904) : SCall Try.prog T16 56 #[.slice (some ⟨0, 0, none⟩) l.length ka, .slice (some ⟨1, 0, none⟩) l.length kb] (hq [(uCo (l ++ lj) ro), (uCo (l ++ lk) ro2)]) fun v h => v = .bool true ∧ h = hq [(uCo (l ++ lj) ro), (uCo (l ++ lk) ro2)] := by
 refine scall_sd 26 _ 2 kr f56_fn f56_body rfl rfl rfl fun X hX => ?_
 refine sd_run 13 (sdQ 10 (l.length : Int) (l.length : Int) (by omega) kr (sd_run 12 ?_))
 refine sd_loop 26 (cl (cl (cr (cl (cr (cr f56b)))))) [.blk 0, .next (cr (cr (cr f56b)))] kr kr kr (fun m9 s9 => ∃ (k : Nat), m9 = l.length - k ∧ (k ≤ l.length) ∧ s9 = ⟨tmL [(0, .slice (some ⟨0, 0, none⟩) l.length ka), (1, .slice (some ⟨1, 0, none⟩) l.length kb), (5, .int .i64 (k : Int))], hq [(uCo (l ++ lj) ro), (uCo (l ++ lk) ro2)]⟩) (l.length - 0) _ e2_ hX ⟨0, rfl, (by omega), rfl⟩ ⟨sub_of kr kr ⟨uC_b, uC_b, ⟨⟩⟩, te_of kr kr⟩ kr ?_
 rintro m9 s9 ⟨k, rfl, i1_0, rfl⟩ R1_ hR1_
 by_cases hlt : k < l.length
 ·skip
  obtain ⟨a1, ha1⟩ : ∃ x_, (l)[k]? = some x_ := ⟨_, List.getElem?_eq_getElem (by omega)⟩
  refine sd_run 7 (sdT 14 ((k : Int) < (l.length : Int)) (by omega) kr (sd_run 11 (sd_ix 19 (.pointer (some ⟨0, 0 + k * 1, none⟩)) k l.length kr kr kr (by omega) (sd_ld 20 (.int .u32 a1) 27 (.pointer (some ⟨0, 0 + k * 1, none⟩)) kr kr kr (ld_cell (l := l ++ lj) (e := 27) (ro := ro) (k := k) (j := 0) uC_len kr kr kr (app_at ha1) rfl) (sd_run 2 (sd_ix 23 (.pointer (some ⟨1, 0 + k * 1, none⟩)) k l.length kr kr kr (by omega) (sd_ld 24 (.int .u32 a1) 27 (.pointer (some ⟨1, 0 + k * 1, none⟩)) kr kr kr (ld_cell (l := l ++ lk) (e := 27) (ro := ro2) (k := k) (j := 0) uC_len kr kr kr (app_at ha1) rfl) ?_)))))))
  refine sd_run 1 (sd_see 25 (.bool false) (see_bool kr ((bne_self_eq_false _) : ((a1 : Int) != a1) = false)) (sd_run 9 (sd_see 16 (.int .i64 ((k + 1 : Nat) : Int)) (see_int (x := (IntKind.i64.wrap ((k : Int) + 1))) kr (w64 (by omega) (by omega) (by omega))) (sd_run 2 ?_))))
  refine sd_inv R1_ kr (hR1_ _ (l.length - (k + 1)) _ e2_ (by omega) ⟨k + 1, rfl, (by omega), rfl⟩ ⟨sub_of kr kr ⟨uC_b, uC_b, ⟨⟩⟩, te_of kr kr⟩ kr)
 ·skip
  obtain rfl : k = l.length := by omega
  refine sd_run 7 (sdF 14 ((l.length : Int) < (l.length : Int)) (by omega) kr (sd_run 14 ?_))
  refine sdY (.bool true) hX [(uCo (l ++ lj) ro), (uCo (l ++ lk) ro2)] i2_ ⟨uC_b, uC_b, ⟨⟩⟩ ⟨rfl, rfl⟩
noncomputable def f37b : Code := Try.f37.body.getD .skip
theorem f37_body : Try.f37.body = some f37b := by kernel_rfl
theorem f37_fn : T16.fn 37 = some Try.f37 := by kernel_rfl
set_option maxHeartbeats 1000000 in
theorem sameS_t {q : Sx} {d dj dk r rj rk : List Int} {ro ro2 : Bool} {ka kb kc kd : Nat} (hd : d.length < 4611686018427387904) (hr : r.length < 4611686018427387904) : SCall Try.prog T16 37 #[(stq q q.pc (.slice (some ⟨0, 0, none⟩) d.length ka) (.slice (some ⟨1, 0, none⟩) r.length kb) q.fl q.cnt), (stq q q.pc (.slice (some ⟨2, 0, none⟩) d.length kc) (.slice (some ⟨3, 0, none⟩) r.length kd) q.fl q.cnt)] (hq [(uCo (d ++ dj) ro), (uCo (r ++ rj) ro), (uCo (d ++ dk) ro2), (uCo (r ++ rk) ro2)]) fun v h => v = .bool true ∧ h = hq [(uCo (d ++ dj) ro), (uCo (r ++ rj) ro), (uCo (d ++ dk) ro2), (uCo (r ++ rk) ro2)] := by
 refine scall_sd 115 _ 4 kr f37_fn f37_body rfl rfl rfl fun X hX => ?_
 refine sd_run 14 (sd_see 9 (.bool true) (see_bool kr ((beq_self_eq_true _) : ((q.pc : Int) == q.pc) = true)) (sd_run 5 (sdCp 15 56 #[.slice (some ⟨0, 0, none⟩) d.length ka, .slice (some ⟨2, 0, none⟩) d.length kc] (@same_t d dj dk ro ro2 ka kc hd) [some 0, some 2] ⟨uC_b, uC_b, ⟨⟩⟩ ?_)))
 rintro v9 k9 ⟨rfl, rfl⟩
 refine ⟨rfl, .bool true, kr, ?_⟩
 refine sd_run 6 (sdCp 22 56 #[.slice (some ⟨1, 0, none⟩) r.length kb, .slice (some ⟨3, 0, none⟩) r.length kd] (@same_t r rj rk ro ro2 kb kd hr) [some 1, some 3] ⟨uC_b, uC_b, ⟨⟩⟩ ?_)
 rintro v9 k9 ⟨rfl, rfl⟩
 refine ⟨rfl, .bool true, kr, ?_⟩
 refine sd_run 7 (sd_see 29 (.bool true) (see_bool kr ((beq_self_eq_true _) : ((q.fl : Int) == q.fl) = true)) (sd_run 7 (sd_see 36 (.bool true) (see_bool kr ((beq_self_eq_true _) : (q.su == q.su) = true)) (sd_run 7 (sd_see 43 (.bool true) (see_bool kr ((beq_self_eq_true _) : (q.pg == q.pg) = true)) (sd_run 7 (sd_see 50 (.bool true) (see_bool kr ((beq_self_eq_true _) : (q.ie == q.ie) = true)) ?_)))))))
 refine sd_run 7 (sd_see 57 (.bool true) (see_bool kr ((beq_self_eq_true _) : ((q.root : Int) == q.root) = true)) (sd_run 7 (sd_see 64 (.bool true) (see_bool kr ((beq_self_eq_true _) : ((q.vec : Int) == q.vec) = true)) (sd_run 7 (sd_see 71 (.bool true) (see_bool kr ((beq_self_eq_true _) : ((q.epc : Int) == q.epc) = true)) (sd_run 7 (sd_see 78 (.bool true) (see_bool kr ((beq_self_eq_true _) : ((q.cause : Int) == q.cause) = true)) ?_)))))))
 refine sd_run 7 (sd_see 85 (.bool true) (see_bool kr ((beq_self_eq_true _) : ((q.addr : Int) == q.addr) = true)) (sd_run 7 (sd_see 92 (.bool true) (see_bool kr ((beq_self_eq_true _) : (q.es == q.es) = true)) (sd_run 7 (sd_see 99 (.bool true) (see_bool kr ((beq_self_eq_true _) : (q.ei == q.ei) = true)) (sd_run 7 (sd_see 106 (.bool true) (see_bool kr ((beq_self_eq_true _) : ((q.cnt : Int) == q.cnt) = true)) ?_)))))))
 refine sd_run 7 (sd_see 113 (.bool true) (see_bool kr ((beq_self_eq_true _) : (q.ha == q.ha) = true)) (sd_run 5 ?_))
 refine sdY (.bool true) hX [(uCo (d ++ dj) ro), (uCo (r ++ rj) ro), (uCo (d ++ dk) ro2), (uCo (r ++ rk) ro2)] i4_ ⟨uC_b, uC_b, uC_b, uC_b, ⟨⟩⟩ ⟨rfl, rfl⟩
noncomputable def f17b : Code := Try.f17.body.getD .skip
theorem f17_body : Try.f17.body = some f17b := by kernel_rfl
theorem f17_fn : T16.fn 17 = some Try.f17 := by kernel_rfl
theorem keep_t {q : Sx} {d dj dk r rj rk : List Int} {ro ro2 : Bool} {ka kb kc kd : Nat} (hd : d.length < 4611686018427387904) (hr : r.length < 4611686018427387904) : SCall Try.prog T16 17 #[(stq q q.pc (.slice (some ⟨0, 0, none⟩) d.length ka) (.slice (some ⟨1, 0, none⟩) r.length kb) q.fl q.cnt), (stq q q.pc (.slice (some ⟨2, 0, none⟩) d.length kc) (.slice (some ⟨3, 0, none⟩) r.length kd) q.fl q.cnt)] (hq [(uCo (d ++ dj) ro), (uCo (r ++ rj) ro), (uCo (d ++ dk) ro2), (uCo (r ++ rk) ro2)]) fun v h => v = .bool true ∧ h = hq [(uCo (d ++ dj) ro), (uCo (r ++ rj) ro), (uCo (d ++ dk) ro2), (uCo (r ++ rk) ro2)] := by
 refine scall_sd 8 _ 4 kr f17_fn f17_body rfl rfl rfl fun X hX => ?_
 refine sd_run 11 (sdCp 7 37 #[(stq q q.pc (.slice (some ⟨0, 0, none⟩) d.length ka) (.slice (some ⟨1, 0, none⟩) r.length kb) q.fl q.cnt), (stq q q.pc (.slice (some ⟨2, 0, none⟩) d.length kc) (.slice (some ⟨3, 0, none⟩) r.length kd) q.fl q.cnt)] (@sameS_t q d dj dk r rj rk ro ro2 ka kb kc kd hd hr) i4_ ⟨uC_b, uC_b, uC_b, uC_b, ⟨⟩⟩ ?_)
 rintro v9 k9 ⟨rfl, rfl⟩
 refine ⟨rfl, .bool true, kr, ?_⟩
 refine sd_run 4 ?_
 refine sdY (.bool true) hX [(uCo (d ++ dj) ro), (uCo (r ++ rj) ro), (uCo (d ++ dk) ro2), (uCo (r ++ rk) ro2)] i4_ ⟨uC_b, uC_b, uC_b, uC_b, ⟨⟩⟩ ⟨rfl, rfl⟩
end Ls
end Go.Proofs.Ytegjicaoemhhlaa
