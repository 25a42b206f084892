/- Chapter 21: a block is done by a plan. -/
import Derived.Test.YtegjicaoemhhlaaJv
import Derived.Test.YtegjicaoemhhlaaJg
namespace Go.Proofs.Ytegjicaoemhhlaa
open Go Go.Ev Go.RowKit
set_option linter.unusedVariables false
set_option linter.unusedSimpArgs false
set_option maxRecDepth 100000
namespace Ls
noncomputable def f14b : Code := Try.f14.body.getD .skip
theorem f14_body : Try.f14.body = some f14b := by kernel_rfl
theorem f14_fn : T16.fn 14 = some Try.f14 := by kernel_rfl
set_option maxHeartbeats 2000000 in
theorem pl_bad {c : List II} {od rd : List Int} {nd nr hd hr fl nx tg br tk ct : Int} {q : Sx} {d dj r rj : List Int} {ro : Bool} {rg sl : List Int} {slots : Int} {k kc kd : Nat} (hR : RightP c od rd nd nr hd hr fl tg br ct (c.length : Int)) (hcl : c.length < 100000) (hol : od.length < 100000) (hrl : rd.length < 100000) (hi : ∀ x ∈ c, 0 ≤ x.2.2.2.2 ∧ x.2.2.2.2 < 4294967296) (hrg : rg.length = c.length) (hsl : sl.length = c.length) (h0 : 0 ≤ slots ∧ slots < 1099511627776) (hk : 1 ≤ k ∧ k ≤ 16) (hdb : d.length * 4 ≤ 140737488355328) (hrb : r.length * 4 ≤ 140737488355328) (hp : planB (ofL c od rd fl tg) k rg sl slots = false) : SCall Try.prog T16 14 #[(pgV (s5 0 c.length) nd nr hd hr (s1 1 od.length) (s1 2 rd.length) fl nx tg br tk ct (c.length : Int)), .agg #[.slice (some ⟨5, 0, none⟩) c.length kc, .slice (some ⟨6, 0, none⟩) c.length kd, .int .i64 slots], .int .i64 (k : Int), (stq q q.pc (s1 3 d.length) (s1 4 r.length) q.fl q.cnt)] (hq [(iiCo c false), (inCo od false), (inCo rd false), (uCo (d ++ dj) ro), (uCo (r ++ rj) ro), (inCo rg false), (inCo sl false)]) fun v h => v = .tuple #[(stq q q.pc (s1 7 d.length) (s1 8 r.length) q.fl q.cnt), .bool false] ∧ h = hq [(iiCo c false), (inCo od false), (inCo rd false), (uCo (d ++ dj) ro), (uCo (r ++ rj) ro), (inCo rg false), (inCo sl false), (uCo d false), (uCo r false)] := by
 have q3 := hR.nd_; have q4 := hR.nr_; have q7 := hR.ct_; have hlen := hR.len; have hvs := hR.vs_
 refine scall_sd 77 _ 7 kr f14_fn f14_body rfl rfl rfl fun X hX => ?_
 refine sd_run 15 (sdCp 21 12 #[(pgV (s5 0 c.length) nd nr hd hr (s1 1 od.length) (s1 2 rd.length) fl nx tg br tk ct (c.length : Int)), .agg #[.slice (some ⟨5, 0, none⟩) c.length kc, .slice (some ⟨6, 0, none⟩) c.length kd, .int .i64 slots], .int .i64 (k : Int)] (@pright_s c od rd nd nr hd hr fl nx tg br tk ct rg sl slots k kc kd hR hcl hol hrl hi hrg hsl h0 hk) [some 0, some 1, some 2, some 5, some 6] ⟨iiC_b, inC_b, inC_b, inC_b, inC_b, ⟨⟩⟩ ?_)
 rintro v9 k9 ⟨rfl, rfl⟩
 refine ⟨rfl, .bool (planB (ofL c od rd fl tg) k rg sl slots), kr, ?_⟩
 refine sd_see 21 (.bool false) (see_bool kr hp) (sd_run 13 (sdC 30 33 #[(stq q q.pc (s1 3 d.length) (s1 4 r.length) q.fl q.cnt)] (@copy_s q d dj r rj ro hdb hrb) [some 3, some 4] ⟨uC_b, uC_b, ⟨⟩⟩ ?_))
 rintro hn9 v9 k9 ⟨rfl, rfl⟩
 refine mkG (stq q q.pc (s1 11 d.length) (s1 12 r.length) q.fl q.cnt) [(iiCo c false), (inCo od false), (inCo rd false), (uCo (d ++ dj) ro), (uCo (r ++ rj) ro), (inCo rg false), (inCo sl false), some ⟨[(s5 0 c.length), .int .i64 nd, .int .i64 nr, .int .i64 hd, .int .i64 hr, (s1 1 od.length), (s1 2 rd.length), .int .i64 fl, .int .u32 nx, .int .i64 tg, .int .i64 br, .int .u32 tk, .int .i64 ct, .int .i64 (c.length : Int)], 29, false⟩, some ⟨[Value.slice (some ⟨5, 0, none⟩) c.length kc, .slice (some ⟨6, 0, none⟩) c.length kd, .int .i64 slots], 38, false⟩, some ⟨(slq q q.pc (s1 3 d.length) (s1 4 r.length) q.fl q.cnt), 34, false⟩, some ⟨(slw 0 (.slice none 0 0) (.slice none 0 0) 0 false false false 0 0 0 0 0 false false 0 false), 34, false⟩, (uCo d false), (uCo r false)] ⟨cvo, cvo, cvo, cvs 0 hn9, cvs 1 hn9, cvo, cvo, cvo, cvo, cvo, cvo, uC_c 2, uC_c 3, ⟨⟩⟩ ?_
 refine sd_run 6 ?_
 refine sdZ (.tuple #[(stq q q.pc (s1 11 d.length) (s1 12 r.length) q.fl q.cnt), .bool false]) hX (.tuple #[(stq q q.pc (s1 7 d.length) (s1 8 r.length) q.fl q.cnt), .bool false]) [(iiCo c false), (inCo od false), (inCo rd false), (uCo (d ++ dj) ro), (uCo (r ++ rj) ro), (inCo rg false), (inCo sl false), (uCo d false), (uCo r false)] [some 0, some 1, some 2, some 3, some 4, some 5, some 6, some 11, some 12] ⟨iiC_b, inC_b, inC_b, uC_b, uC_b, inC_b, inC_b, uC_b, uC_b, ⟨⟩⟩ ⟨rfl, rfl⟩
end Ls
end Go.Proofs.Ytegjicaoemhhlaa
