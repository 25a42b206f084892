/- Chapter 19: states that are the same; a state that is right. -/
import Derived.Test.YtgpphhdndmdlgaaDoorKl
namespace Go.Proofs.YtgpphhdndmdlgaaDoor
open Go Go.Ev Go.RowKit
set_option linter.unusedVariables false
set_option linter.unusedSimpArgs false
set_option maxRecDepth 100000
namespace Ls
noncomputable def f58b : Code := Tryd.f58.body.getD .skip
theorem f58_body : Tryd.f58.body = some f58b := by kernel_rfl
theorem f58_fn : T20.fn 58 = some Tryd.f58 := by kernel_rfl
theorem same_t {l lj lk : List Int} {ro ro2 : Bool} {ka kb : Nat} (hl : l.length < 4611686018427387904) : SCall Tryd.prog T20 58 #[.slice (some ⟨0, 0, none⟩) l.length ka, .slice (some ⟨1, 0, none⟩) l.length kb] (hq [(uCo (l ++ lj) ro), (uCo (l ++ lk) ro2)]) fun v h => v = .bool true ∧ h = hq [(uCo (l ++ lj) ro), (uCo (l ++ lk) ro2)] := by
 refine scall_sd 26 _ 2 kr f58_fn f58_body rfl rfl rfl fun X hX => ?_
 refine sd_run 13 (sdQ 10 (l.length : Int) (l.length : Int) (by omega) kr (sd_run 12 ?_))
 refine sd_loop 26 (cl (cl (cr (cl (cr (cr f58b)))))) [.blk 0, .next (cr (cr (cr f58b)))] kr kr kr (fun m9 s9 => ∃ (k : Nat), m9 = l.length - k ∧ (k ≤ l.length) ∧ s9 = ⟨tmL [(0, .slice (some ⟨0, 0, none⟩) l.length ka), (1, .slice (some ⟨1, 0, none⟩) l.length kb), (5, .int .i64 (k : Int))], hq [(uCo (l ++ lj) ro), (uCo (l ++ lk) ro2)]⟩) (l.length - 0) _ e2_ hX ⟨0, rfl, (by omega), rfl⟩ ⟨sub_of kr kr ⟨uC_b, uC_b, ⟨⟩⟩, te_of kr kr⟩ kr ?_
 rintro m9 s9 ⟨k, rfl, i1_0, rfl⟩ R1_ hR1_
 by_cases hlt : k < l.length
 ·skip
  obtain ⟨a1, ha1⟩ : ∃ x_, (l)[k]? = some x_ := ⟨_, List.getElem?_eq_getElem (by omega)⟩
  refine sd_run 7 (sdT 14 ((k : Int) < (l.length : Int)) (by omega) kr (sd_run 11 (sd_ix 19 (.pointer (some ⟨0, 0 + k * 1, none⟩)) k l.length kr kr kr (by omega) (sd_ld 20 (.int .u32 a1) 24 (.pointer (some ⟨0, 0 + k * 1, none⟩)) kr kr kr (ld_cell (l := l ++ lj) (e := 24) (ro := ro) (k := k) (j := 0) uC_len kr kr kr (app_at ha1) rfl) (sd_run 2 (sd_ix 23 (.pointer (some ⟨1, 0 + k * 1, none⟩)) k l.length kr kr kr (by omega) (sd_ld 24 (.int .u32 a1) 24 (.pointer (some ⟨1, 0 + k * 1, none⟩)) kr kr kr (ld_cell (l := l ++ lk) (e := 24) (ro := ro2) (k := k) (j := 0) uC_len kr kr kr (app_at ha1) rfl) ?_)))))))
  refine sd_run 1 (sd_see 25 (.bool false) (see_bool kr ((bne_self_eq_false _) : ((a1 : Int) != a1) = false)) (sd_run 9 (sd_see 16 (.int .i64 ((k + 1 : Nat) : Int)) (see_int (x := (IntKind.i64.wrap ((k : Int) + 1))) kr (w64 (by omega) (by omega) (by omega))) (sd_run 2 ?_))))
  refine sd_inv R1_ kr (hR1_ _ (l.length - (k + 1)) _ e2_ (by omega) ⟨k + 1, rfl, (by omega), rfl⟩ ⟨sub_of kr kr ⟨uC_b, uC_b, ⟨⟩⟩, te_of kr kr⟩ kr)
 ·skip
  obtain rfl : k = l.length := by omega
  refine sd_run 7 (sdF 14 ((l.length : Int) < (l.length : Int)) (by omega) kr (sd_run 14 ?_))
  refine sdY (.bool true) hX [(uCo (l ++ lj) ro), (uCo (l ++ lk) ro2)] i2_ ⟨uC_b, uC_b, ⟨⟩⟩ ⟨rfl, rfl⟩
noncomputable def f40b : Code := Tryd.f40.body.getD .skip
theorem f40_body : Tryd.f40.body = some f40b := by kernel_rfl
theorem f40_fn : T20.fn 40 = some Tryd.f40 := by kernel_rfl
set_option maxHeartbeats 1000000 in
theorem sameS_t {q : Sx} {d dj dk r rj rk : List Int} {ro ro2 : Bool} {ka kb kc kd : Nat} (hd : d.length < 4611686018427387904) (hr : r.length < 4611686018427387904) : SCall Tryd.prog T20 40 #[(stq q q.pc (.slice (some ⟨0, 0, none⟩) d.length ka) (.slice (some ⟨1, 0, none⟩) r.length kb) q.fl q.cnt), (stq q q.pc (.slice (some ⟨2, 0, none⟩) d.length kc) (.slice (some ⟨3, 0, none⟩) r.length kd) q.fl q.cnt)] (hq [(uCo (d ++ dj) ro), (uCo (r ++ rj) ro), (uCo (d ++ dk) ro2), (uCo (r ++ rk) ro2)]) fun v h => v = .bool true ∧ h = hq [(uCo (d ++ dj) ro), (uCo (r ++ rj) ro), (uCo (d ++ dk) ro2), (uCo (r ++ rk) ro2)] := by
 refine scall_sd 115 _ 4 kr f40_fn f40_body rfl rfl rfl fun X hX => ?_
 refine sd_run 14 (sd_see 9 (.bool true) (see_bool kr ((beq_self_eq_true _) : ((q.pc : Int) == q.pc) = true)) (sd_run 5 (sdCp 15 58 #[.slice (some ⟨0, 0, none⟩) d.length ka, .slice (some ⟨2, 0, none⟩) d.length kc] (@same_t d dj dk ro ro2 ka kc hd) [some 0, some 2] ⟨uC_b, uC_b, ⟨⟩⟩ ?_)))
 rintro v9 k9 ⟨rfl, rfl⟩
 refine ⟨rfl, .bool true, kr, ?_⟩
 refine sd_run 6 (sdCp 22 58 #[.slice (some ⟨1, 0, none⟩) r.length kb, .slice (some ⟨3, 0, none⟩) r.length kd] (@same_t r rj rk ro ro2 kb kd hr) [some 1, some 3] ⟨uC_b, uC_b, ⟨⟩⟩ ?_)
 rintro v9 k9 ⟨rfl, rfl⟩
 refine ⟨rfl, .bool true, kr, ?_⟩
 refine sd_run 7 (sd_see 29 (.bool true) (see_bool kr ((beq_self_eq_true _) : ((q.fl : Int) == q.fl) = true)) (sd_run 7 (sd_see 36 (.bool true) (see_bool kr ((beq_self_eq_true _) : (q.su == q.su) = true)) (sd_run 7 (sd_see 43 (.bool true) (see_bool kr ((beq_self_eq_true _) : (q.pg == q.pg) = true)) (sd_run 7 (sd_see 50 (.bool true) (see_bool kr ((beq_self_eq_true _) : (q.ie == q.ie) = true)) ?_)))))))
 refine sd_run 7 (sd_see 57 (.bool true) (see_bool kr ((beq_self_eq_true _) : ((q.root : Int) == q.root) = true)) (sd_run 7 (sd_see 64 (.bool true) (see_bool kr ((beq_self_eq_true _) : ((q.vec : Int) == q.vec) = true)) (sd_run 7 (sd_see 71 (.bool true) (see_bool kr ((beq_self_eq_true _) : ((q.epc : Int) == q.epc) = true)) (sd_run 7 (sd_see 78 (.bool true) (see_bool kr ((beq_self_eq_true _) : ((q.cause : Int) == q.cause) = true)) ?_)))))))
 refine sd_run 7 (sd_see 85 (.bool true) (see_bool kr ((beq_self_eq_true _) : ((q.addr : Int) == q.addr) = true)) (sd_run 7 (sd_see 92 (.bool true) (see_bool kr ((beq_self_eq_true _) : (q.es == q.es) = true)) (sd_run 7 (sd_see 99 (.bool true) (see_bool kr ((beq_self_eq_true _) : (q.ei == q.ei) = true)) (sd_run 7 (sd_see 106 (.bool true) (see_bool kr ((beq_self_eq_true _) : ((q.cnt : Int) == q.cnt) = true)) ?_)))))))
 refine sd_run 7 (sd_see 113 (.bool true) (see_bool kr ((beq_self_eq_true _) : (q.ha == q.ha) = true)) (sd_run 5 ?_))
 refine sdY (.bool true) hX [(uCo (d ++ dj) ro), (uCo (r ++ rj) ro), (uCo (d ++ dk) ro2), (uCo (r ++ rk) ro2)] i4_ ⟨uC_b, uC_b, uC_b, uC_b, ⟨⟩⟩ ⟨rfl, rfl⟩
noncomputable def f20b : Code := Tryd.f20.body.getD .skip
theorem f20_body : Tryd.f20.body = some f20b := by kernel_rfl
theorem f20_fn : T20.fn 20 = some Tryd.f20 := by kernel_rfl
theorem keep_t {q : Sx} {d dj dk r rj rk : List Int} {ro ro2 : Bool} {ka kb kc kd : Nat} (hd : d.length < 4611686018427387904) (hr : r.length < 4611686018427387904) : SCall Tryd.prog T20 20 #[(stq q q.pc (.slice (some ⟨0, 0, none⟩) d.length ka) (.slice (some ⟨1, 0, none⟩) r.length kb) q.fl q.cnt), (stq q q.pc (.slice (some ⟨2, 0, none⟩) d.length kc) (.slice (some ⟨3, 0, none⟩) r.length kd) q.fl q.cnt)] (hq [(uCo (d ++ dj) ro), (uCo (r ++ rj) ro), (uCo (d ++ dk) ro2), (uCo (r ++ rk) ro2)]) fun v h => v = .bool true ∧ h = hq [(uCo (d ++ dj) ro), (uCo (r ++ rj) ro), (uCo (d ++ dk) ro2), (uCo (r ++ rk) ro2)] := by
 refine scall_sd 8 _ 4 kr f20_fn f20_body rfl rfl rfl fun X hX => ?_
 refine sd_run 11 (sdCp 7 40 #[(stq q q.pc (.slice (some ⟨0, 0, none⟩) d.length ka) (.slice (some ⟨1, 0, none⟩) r.length kb) q.fl q.cnt), (stq q q.pc (.slice (some ⟨2, 0, none⟩) d.length kc) (.slice (some ⟨3, 0, none⟩) r.length kd) q.fl q.cnt)] (@sameS_t q d dj dk r rj rk ro ro2 ka kb kc kd hd hr) i4_ ⟨uC_b, uC_b, uC_b, uC_b, ⟨⟩⟩ ?_)
 rintro v9 k9 ⟨rfl, rfl⟩
 refine ⟨rfl, .bool true, kr, ?_⟩
 refine sd_run 4 ?_
 refine sdY (.bool true) hX [(uCo (d ++ dj) ro), (uCo (r ++ rj) ro), (uCo (d ++ dk) ro2), (uCo (r ++ rk) ro2)] i4_ ⟨uC_b, uC_b, uC_b, uC_b, ⟨⟩⟩ ⟨rfl, rfl⟩
noncomputable def f5b : Code := Tryd.f5.body.getD .skip
theorem f5_body : Tryd.f5.body = some f5b := by kernel_rfl
theorem f5_fn : T20.fn 5 = some Tryd.f5 := by kernel_rfl
theorem trim_s {q : Sx} {d dj r rj : List Int} {ro : Bool} (hd : d.length * 4 ≤ 140737488355328) (hr : r.length * 4 ≤ 140737488355328) : SCall Tryd.prog T20 5 #[(stq q q.pc (s1 0 d.length) (s1 1 r.length) q.fl q.cnt)] (hq [(uCo (d ++ dj) ro), (uCo (r ++ rj) ro)]) fun v h => v = (stq q q.pc (s1 2 ((d.take 16).length)) (s1 3 ((r.take 16).length)) (Int.tmod q.fl 16) (Int.tmod q.cnt 1099511627776)) ∧ h = hq [(uCo (d ++ dj) ro), (uCo (r ++ rj) ro), (uCo (d.take 16 ++ d.drop 16) false), (uCo (r.take 16 ++ r.drop 16) false)] := by
 have ed : (d.take 16).length = min 16 d.length := List.length_take
 have er : (r.take 16).length = min 16 r.length := List.length_take
 rcases (by omega : (16 < d.length ∧ 16 < r.length) ∨ (16 < d.length ∧ r.length ≤ 16) ∨ (d.length ≤ 16 ∧ 16 < r.length) ∨ (d.length ≤ 16 ∧ r.length ≤ 16)) with hc | hc | hc | hc
 ·skip
  refine scall_sd 30 _ 2 kr f5_fn f5_body rfl rfl rfl fun X hX => ?_
  refine sd_run 9 (sdC 4 13 #[(stq q q.pc (s1 0 d.length) (s1 1 r.length) q.fl q.cnt)] (@copy16_s q d dj r rj (unk + 1) (unk + 1) ro hd hr) i2_ ⟨uC_b, uC_b, ⟨⟩⟩ ?_)
  rintro Y v9 k9 ⟨rfl, rfl⟩
  refine mkG (stq q q.pc (s1 4 d.length) (s1 5 r.length) q.fl q.cnt) [(uCo (d ++ dj) ro), (uCo (r ++ rj) ro), some ⟨(slq q q.pc (s1 0 d.length) (s1 1 r.length) q.fl q.cnt), 29, false⟩, some ⟨(slw 0 (.slice none 0 0) (.slice none 0 0) 0 false false false 0 0 0 0 0 false false 0 false), 29, false⟩, (uCo d false), (uCo r false)] ⟨cvs 0 Y, cvs 1 Y, cvo, cvo, uC_c 2, uC_c 3, ⟨⟩⟩ ?_
  refine sd_run 10 (sdT 8 ((d.length : Int) > 16) (by omega) kr (sd_run 6 (sd_slh 11 23 24 1 4 0 d.length 16 .i64 kr kr kr kr kr (by first | omega | (simp; done) | (simp; omega)) (sd_run 11 (sdT 16 ((r.length : Int) > 16) (by omega) kr (sd_run 6 (sd_slh 19 23 24 1 5 0 r.length 16 .i64 kr kr kr kr kr (by first | omega | (simp; done) | (simp; omega)) ?_)))))))
  refine sd_run 29 ?_
  refine sdZ (stq q q.pc (s1 4 16) (s1 5 16) (Int.tmod q.fl 16) (Int.tmod q.cnt 1099511627776)) hX (stq q q.pc (s1 2 16) (s1 3 16) (Int.tmod q.fl 16) (Int.tmod q.cnt 1099511627776)) [(uCo (d ++ dj) ro), (uCo (r ++ rj) ro), (uCo (d.take 16 ++ d.drop 16) false), (uCo (r.take 16 ++ r.drop 16) false)] [some 0, some 1, some 4, some 5] ⟨uC_b, uC_b, bk_flat (tab uC d) kr (tab_plain uC_pl _) (congrArg (tab uC) (List.take_append_drop 16 d).symm), bk_flat (tab uC r) kr (tab_plain uC_pl _) (congrArg (tab uC) (List.take_append_drop 16 r).symm), ⟨⟩⟩ ⟨(by rw [show (d.take 16).length = 16 by omega, show (r.take 16).length = 16 by omega]), rfl⟩
 ·skip
  refine scall_sd 30 _ 2 kr f5_fn f5_body rfl rfl rfl fun X hX => ?_
  refine sd_run 9 (sdC 4 13 #[(stq q q.pc (s1 0 d.length) (s1 1 r.length) q.fl q.cnt)] (@copy16_s q d dj r rj (unk + 1) (unk + 1) ro hd hr) i2_ ⟨uC_b, uC_b, ⟨⟩⟩ ?_)
  rintro Y v9 k9 ⟨rfl, rfl⟩
  refine mkG (stq q q.pc (s1 4 d.length) (s1 5 r.length) q.fl q.cnt) [(uCo (d ++ dj) ro), (uCo (r ++ rj) ro), some ⟨(slq q q.pc (s1 0 d.length) (s1 1 r.length) q.fl q.cnt), 29, false⟩, some ⟨(slw 0 (.slice none 0 0) (.slice none 0 0) 0 false false false 0 0 0 0 0 false false 0 false), 29, false⟩, (uCo d false), (uCo r false)] ⟨cvs 0 Y, cvs 1 Y, cvo, cvo, uC_c 2, uC_c 3, ⟨⟩⟩ ?_
  refine sd_run 10 (sdT 8 ((d.length : Int) > 16) (by omega) kr (sd_run 6 (sd_slh 11 23 24 1 4 0 d.length 16 .i64 kr kr kr kr kr (by first | omega | (simp; done) | (simp; omega)) (sd_run 11 (sdF 16 ((r.length : Int) > 16) (by omega) kr (sd_run 30 ?_))))))
  refine sdZ (stq q q.pc (s1 4 16) (s1 5 r.length) (Int.tmod q.fl 16) (Int.tmod q.cnt 1099511627776)) hX (stq q q.pc (s1 2 16) (s1 3 r.length) (Int.tmod q.fl 16) (Int.tmod q.cnt 1099511627776)) [(uCo (d ++ dj) ro), (uCo (r ++ rj) ro), (uCo (d.take 16 ++ d.drop 16) false), (uCo (r.take 16 ++ r.drop 16) false)] [some 0, some 1, some 4, some 5] ⟨uC_b, uC_b, bk_flat (tab uC d) kr (tab_plain uC_pl _) (congrArg (tab uC) (List.take_append_drop 16 d).symm), bk_flat (tab uC r) kr (tab_plain uC_pl _) (congrArg (tab uC) (List.take_append_drop 16 r).symm), ⟨⟩⟩ ⟨(by rw [show (d.take 16).length = 16 by omega, show (r.take 16).length = r.length by omega]), rfl⟩
 ·skip
  refine scall_sd 30 _ 2 kr f5_fn f5_body rfl rfl rfl fun X hX => ?_
  refine sd_run 9 (sdC 4 13 #[(stq q q.pc (s1 0 d.length) (s1 1 r.length) q.fl q.cnt)] (@copy16_s q d dj r rj (unk + 1) (unk + 1) ro hd hr) i2_ ⟨uC_b, uC_b, ⟨⟩⟩ ?_)
  rintro Y v9 k9 ⟨rfl, rfl⟩
  refine mkG (stq q q.pc (s1 4 d.length) (s1 5 r.length) q.fl q.cnt) [(uCo (d ++ dj) ro), (uCo (r ++ rj) ro), some ⟨(slq q q.pc (s1 0 d.length) (s1 1 r.length) q.fl q.cnt), 29, false⟩, some ⟨(slw 0 (.slice none 0 0) (.slice none 0 0) 0 false false false 0 0 0 0 0 false false 0 false), 29, false⟩, (uCo d false), (uCo r false)] ⟨cvs 0 Y, cvs 1 Y, cvo, cvo, uC_c 2, uC_c 3, ⟨⟩⟩ ?_
  refine sd_run 10 (sdF 8 ((d.length : Int) > 16) (by omega) kr (sd_run 12 (sdT 16 ((r.length : Int) > 16) (by omega) kr (sd_run 6 (sd_slh 19 23 24 1 5 0 r.length 16 .i64 kr kr kr kr kr (by first | omega | (simp; done) | (simp; omega)) (sd_run 29 ?_))))))
  refine sdZ (stq q q.pc (s1 4 d.length) (s1 5 16) (Int.tmod q.fl 16) (Int.tmod q.cnt 1099511627776)) hX (stq q q.pc (s1 2 d.length) (s1 3 16) (Int.tmod q.fl 16) (Int.tmod q.cnt 1099511627776)) [(uCo (d ++ dj) ro), (uCo (r ++ rj) ro), (uCo (d.take 16 ++ d.drop 16) false), (uCo (r.take 16 ++ r.drop 16) false)] [some 0, some 1, some 4, some 5] ⟨uC_b, uC_b, bk_flat (tab uC d) kr (tab_plain uC_pl _) (congrArg (tab uC) (List.take_append_drop 16 d).symm), bk_flat (tab uC r) kr (tab_plain uC_pl _) (congrArg (tab uC) (List.take_append_drop 16 r).symm), ⟨⟩⟩ ⟨(by rw [show (d.take 16).length = d.length by omega, show (r.take 16).length = 16 by omega]), rfl⟩
 ·skip
  refine scall_sd 30 _ 2 kr f5_fn f5_body rfl rfl rfl fun X hX => ?_
  refine sd_run 9 (sdC 4 13 #[(stq q q.pc (s1 0 d.length) (s1 1 r.length) q.fl q.cnt)] (@copy16_s q d dj r rj (unk + 1) (unk + 1) ro hd hr) i2_ ⟨uC_b, uC_b, ⟨⟩⟩ ?_)
  rintro Y v9 k9 ⟨rfl, rfl⟩
  refine mkG (stq q q.pc (s1 4 d.length) (s1 5 r.length) q.fl q.cnt) [(uCo (d ++ dj) ro), (uCo (r ++ rj) ro), some ⟨(slq q q.pc (s1 0 d.length) (s1 1 r.length) q.fl q.cnt), 29, false⟩, some ⟨(slw 0 (.slice none 0 0) (.slice none 0 0) 0 false false false 0 0 0 0 0 false false 0 false), 29, false⟩, (uCo d false), (uCo r false)] ⟨cvs 0 Y, cvs 1 Y, cvo, cvo, uC_c 2, uC_c 3, ⟨⟩⟩ ?_
  refine sd_run 10 (sdF 8 ((d.length : Int) > 16) (by omega) kr (sd_run 12 (sdF 16 ((r.length : Int) > 16) (by omega) kr (sd_run 30 ?_))))
  refine sdZ (stq q q.pc (s1 4 d.length) (s1 5 r.length) (Int.tmod q.fl 16) (Int.tmod q.cnt 1099511627776)) hX (stq q q.pc (s1 2 d.length) (s1 3 r.length) (Int.tmod q.fl 16) (Int.tmod q.cnt 1099511627776)) [(uCo (d ++ dj) ro), (uCo (r ++ rj) ro), (uCo (d.take 16 ++ d.drop 16) false), (uCo (r.take 16 ++ r.drop 16) false)] [some 0, some 1, some 4, some 5] ⟨uC_b, uC_b, bk_flat (tab uC d) kr (tab_plain uC_pl _) (congrArg (tab uC) (List.take_append_drop 16 d).symm), bk_flat (tab uC r) kr (tab_plain uC_pl _) (congrArg (tab uC) (List.take_append_drop 16 r).symm), ⟨⟩⟩ ⟨(by rw [show (d.take 16).length = d.length by omega, show (r.take 16).length = r.length by omega]), rfl⟩
end Ls
end Go.Proofs.YtgpphhdndmdlgaaDoor
