/- Chapter 19: both the same. -/
import Derived.Test.YtgpphhdndmdlgaaDoorTf
namespace Go.Proofs.YtgpphhdndmdlgaaDoor
open Go Go.Ev Go.RowKit
set_option linter.unusedVariables false
set_option linter.unusedSimpArgs false
set_option maxRecDepth 100000
namespace Ls
noncomputable def f6b : Code := Tryd.f6.body.getD .skip
theorem f6_body : Tryd.f6.body = some f6b := by kernel_rfl
theorem f6_fn : T20.fn 6 = some Tryd.f6 := by kernel_rfl
set_option maxHeartbeats 2000000 in
theorem same_bad {c : List II} {od rd : List Int} {nd nr hd hr fl nx tg br tk ct vs : Int} {q : Sx} {d dj r rj : List Int} {ro : Bool} {ka kb : Nat} (hno : rightB c od rd nd nr hd hr fl tg br ct vs = false) (hcl : c.length < 100000) (hol : od.length < 100000) (hrl : rd.length < 100000) (hi : ∀ x ∈ c, 0 ≤ x.2.2.2.2 ∧ x.2.2.2.2 < 4294967296) (hdb : d.length * 4 ≤ 140737488355328) (hrb : r.length * 4 ≤ 140737488355328) (hd32 : V32 d) (hr32 : V32 r) (hfq : 0 ≤ q.fl ∧ q.fl < 4294967296) (hka : CapK ka d.length) (hkb : CapK kb r.length) : SCall Tryd.prog T20 6 #[(pgV (s5 0 c.length) nd nr hd hr (s1 1 od.length) (s1 2 rd.length) fl nx tg br tk ct vs), (stq q q.pc (.slice (some ⟨3, 0, none⟩) d.length ka) (.slice (some ⟨4, 0, none⟩) r.length kb) q.fl q.cnt)] (hq [(iiCo c false), (inCo od false), (inCo rd false), (uCo (d ++ dj) ro), (uCo (r ++ rj) ro)]) fun v h => v = .bool true ∧ h = hq [(iiCo c false), (inCo od false), (inCo rd false), (uCo (d ++ dj) ro), (uCo (r ++ rj) ro)] := by
 refine scall_sd 45 _ 5 kr f6_fn f6_body rfl rfl rfl fun X hX => ?_
 refine sd_run 11 (sdC 12 14 #[(pgV (s5 0 c.length) nd nr hd hr (s1 1 od.length) (s1 2 rd.length) fl nx tg br tk ct vs), (stq q q.pc (.slice (some ⟨3, 0, none⟩) d.length ka) (.slice (some ⟨4, 0, none⟩) r.length kb) q.fl q.cnt)] (@eval_bad c od rd nd nr hd hr fl nx tg br tk ct vs q d dj r rj ro ka kb hno hcl hol hrl hi hdb hrb) i5_ ⟨iiC_b, inC_b, inC_b, uC_b, uC_b, ⟨⟩⟩ ?_)
 rintro Y v9 k9 ⟨rfl, rfl⟩
 refine mkG (.tuple #[(stq q q.pc (s1 7 d.length) (s1 8 r.length) q.fl q.cnt), .bool false]) [(iiCo c false), (inCo od false), (inCo rd false), (uCo (d ++ dj) ro), (uCo (r ++ rj) ro), some ⟨(pgL (s5 0 c.length) nd nr hd hr (s1 1 od.length) (s1 2 rd.length) fl nx tg br tk ct vs), 32, false⟩, some ⟨(slq q q.pc (.slice (some ⟨3, 0, none⟩) d.length ka) (.slice (some ⟨4, 0, none⟩) r.length kb) q.fl q.cnt), 29, false⟩, (uCo d false), (uCo r false)] ⟨cvs 0 Y, cvs 1 Y, cvs 2 Y, cvs 3 Y, cvs 4 Y, cvo, cvo, uC_c 5, uC_c 6, ⟨⟩⟩ ?_
 refine sd_run 12 (sdCp 18 15 #[(pgV (s5 0 c.length) nd nr hd hr (s1 1 od.length) (s1 2 rd.length) fl nx tg br tk ct vs), (stq q q.pc (.slice (some ⟨3, 0, none⟩) d.length ka) (.slice (some ⟨4, 0, none⟩) r.length kb) q.fl q.cnt)] (@ev19_bad c od rd nd nr hd hr fl nx tg br tk ct vs q d dj r rj ro ka kb hno hcl hol hrl hi) i5_ ⟨iiC_b, inC_b, inC_b, uC_b, uC_b, ⟨⟩⟩ ?_)
 rintro v9 k9 ⟨rfl, rfl⟩
 refine ⟨rfl, .tuple #[(stq q q.pc (.slice (some ⟨3, 0, none⟩) d.length ka) (.slice (some ⟨4, 0, none⟩) r.length kb) q.fl q.cnt), .bool false], kr, ?_⟩
 refine sd_run 9 (sd_drawP kr ?_)
 refine svp_go 1 ?_
 refine svp_line ?_
 refine sv_callp 22 16 #[(pgV (s5 0 c.length) nd nr hd hr (s1 1 od.length) (s1 2 rd.length) fl nx tg br tk ct vs)] (@right_s c od rd nd nr hd hr fl nx tg br tk ct vs (by omega) (by omega) (by omega) hi) [some 0, some 1, some 2] kr kr kr (hn_of 0 kr ⟨iiC_b, inC_b, inC_b, ⟨⟩⟩) kr kr ?_
 rintro v9 k9 ⟨rfl, rfl⟩
 refine ⟨rfl, .bool (rightB c od rd nd nr hd hr fl tg br ct vs), kr, ?_⟩
 refine sv_see 22 (.bool false) (see_bool kr hno) ?_
 refine sv_rd 23 (pgV (s5 0 c.length) nd nr hd hr (s1 1 od.length) (s1 2 rd.length) fl nx tg br tk ct vs) 32 5 0 kr kr kr kr (veqs_c (veq_slice _ _ _) (veqs_c (veq_int _ _) (veqs_c (veq_int _ _) (veqs_c (veq_int _ _) (veqs_c (veq_int _ _) (veqs_c (veq_slice _ _ _) (veqs_c (veq_slice _ _ _) (veqs_c (veq_int _ _) (veqs_c (veq_int _ _) (veqs_c (veq_int _ _) (veqs_c (veq_int _ _) (veqs_c (veq_int _ _) (veqs_c (veq_int _ _) (veqs_c (veq_int _ _) rfl)))))))))))))) kr ?_
 refine sv_callp 24 17 #[(pgV (s5 0 c.length) nd nr hd hr (s1 1 od.length) (s1 2 rd.length) fl nx tg br tk ct vs)] (@rright_any c od rd nd nr hd hr fl nx tg br tk ct vs hcl hol hrl hi) [some 0, some 1, some 2] kr kr kr (hn_of 0 kr ⟨iiC_b, inC_b, inC_b, ⟨⟩⟩) kr kr ?_
 rintro v9 k9 ⟨rfl, rfl⟩
 refine ⟨rfl, .bool (rightB c od rd nd nr hd hr fl tg br ct vs), kr, ?_⟩
 refine sv_see 24 (.bool false) (see_bool kr hno) ?_
 refine sv_run 4 ?_
 refine sv_callp 29 18 #[(pgV (s5 0 c.length) nd nr hd hr (s1 1 od.length) (s1 2 rd.length) fl nx tg br tk ct vs), (stq q q.pc (.slice (some ⟨3, 0, none⟩) d.length ka) (.slice (some ⟨4, 0, none⟩) r.length kb) q.fl q.cnt)] (@fits_no c od rd nd nr hd hr fl nx tg br tk ct vs q d dj r rj ro ka kb hno hcl hol hrl hi) [some 0, some 1, some 2, some 3, some 4] kr kr kr (hn_of 0 kr ⟨iiC_b, inC_b, inC_b, uC_b, uC_b, ⟨⟩⟩) kr kr ?_
 rintro v9 k9 ⟨rfl, rfl⟩
 refine ⟨rfl, .bool false, kr, ?_⟩
 refine sv_rd 30 (pgV (s5 0 c.length) nd nr hd hr (s1 1 od.length) (s1 2 rd.length) fl nx tg br tk ct vs) 32 5 0 kr kr kr kr (veqs_c (veq_slice _ _ _) (veqs_c (veq_int _ _) (veqs_c (veq_int _ _) (veqs_c (veq_int _ _) (veqs_c (veq_int _ _) (veqs_c (veq_slice _ _ _) (veqs_c (veq_slice _ _ _) (veqs_c (veq_int _ _) (veqs_c (veq_int _ _) (veqs_c (veq_int _ _) (veqs_c (veq_int _ _) (veqs_c (veq_int _ _) (veqs_c (veq_int _ _) (veqs_c (veq_int _ _) rfl)))))))))))))) kr ?_
 refine sv_rd 31 (stq q q.pc (.slice (some ⟨3, 0, none⟩) d.length ka) (.slice (some ⟨4, 0, none⟩) r.length kb) q.fl q.cnt) 29 6 0 kr kr kr kr (veqs_c (veq_int _ _) (veqs_c (veq_slice _ _ _) (veqs_c (veq_slice _ _ _) (veqs_c (veq_int _ _) (veqs_c (by simp [veq, veq0]) (veqs_c (by simp [veq, veq0]) (veqs_c (by simp [veq, veq0]) (veqs_c (veq_int _ _) (veqs_c (veq_int _ _) (veqs_c (veq_int _ _) (veqs_c (veq_int _ _) (veqs_c (veq_int _ _) (veqs_c (by simp [veq, veq0]) (veqs_c (by simp [veq, veq0]) (veqs_c (veq_int _ _) (veqs_c (by simp [veq, veq0]) rfl)))))))))))))))) kr ?_
 refine sv_callp 32 19 #[(pgV (s5 0 c.length) nd nr hd hr (s1 1 od.length) (s1 2 rd.length) fl nx tg br tk ct vs), (stq q q.pc (.slice (some ⟨3, 0, none⟩) d.length ka) (.slice (some ⟨4, 0, none⟩) r.length kb) q.fl q.cnt)] (@fits19_no c od rd nd nr hd hr fl nx tg br tk ct vs q d dj r rj ro ka kb hno hcl hol hrl hi) [some 0, some 1, some 2, some 3, some 4] kr kr kr (hn_of 0 kr ⟨iiC_b, inC_b, inC_b, uC_b, uC_b, ⟨⟩⟩) kr kr ?_
 rintro v9 k9 ⟨rfl, rfl⟩
 refine ⟨rfl, .bool false, kr, ?_⟩
 refine sv_run 10 ?_
 refine sv_callp 43 20 #[(stq q q.pc (s1 7 d.length) (s1 8 r.length) q.fl q.cnt), (stq q q.pc (.slice (some ⟨3, 0, none⟩) d.length ka) (.slice (some ⟨4, 0, none⟩) r.length kb) q.fl q.cnt)] (@keep_t q d [] dj r [] rj false ro (unk + 1) (unk + 1) ka kb (by first | omega | (simp; done) | (simp; omega)) (by first | omega | (simp; done) | (simp; omega))) [some 7, some 8, some 3, some 4] kr kr kr (hn_of 0 kr ⟨bk_flat (tab uC d) kr (tab_plain uC_pl _) (congrArg (tab uC) (List.append_nil _).symm), bk_flat (tab uC r) kr (tab_plain uC_pl _) (congrArg (tab uC) (List.append_nil _).symm), uC_b, uC_b, ⟨⟩⟩) kr kr ?_
 rintro v9 k9 ⟨rfl, rfl⟩
 refine ⟨rfl, .bool true, kr, ?_⟩
 refine sv_run 2 ?_
 refine sv_end kr ?_
 refine sd_run 2 ?_
 refine sdY (.bool true) hX [(iiCo c false), (inCo od false), (inCo rd false), (uCo (d ++ dj) ro), (uCo (r ++ rj) ro)] i5_ ⟨iiC_b, inC_b, inC_b, uC_b, uC_b, ⟨⟩⟩ ⟨rfl, rfl⟩
set_option maxHeartbeats 2000000 in
theorem same_no {c : List II} {od rd : List Int} {nd nr hd hr fl nx tg br tk ct : Int} {q : Sx} {d dj r rj : List Int} {ro : Bool} {ka kb : Nat} (hR : RightP c od rd nd nr hd hr fl tg br ct (c.length : Int)) (hf : fitsB nd nr hd hr d r q.fl = false) (hcl : c.length < 100000) (hol : od.length < 100000) (hrl : rd.length < 100000) (hi : ∀ x ∈ c, 0 ≤ x.2.2.2.2 ∧ x.2.2.2.2 < 4294967296) (hdb : d.length * 4 ≤ 140737488355328) (hrb : r.length * 4 ≤ 140737488355328) (hd32 : V32 d) (hr32 : V32 r) (hfq : 0 ≤ q.fl ∧ q.fl < 4294967296) (hka : CapK ka d.length) (hkb : CapK kb r.length) : SCall Tryd.prog T20 6 #[(pgV (s5 0 c.length) nd nr hd hr (s1 1 od.length) (s1 2 rd.length) fl nx tg br tk ct (c.length : Int)), (stq q q.pc (.slice (some ⟨3, 0, none⟩) d.length ka) (.slice (some ⟨4, 0, none⟩) r.length kb) q.fl q.cnt)] (hq [(iiCo c false), (inCo od false), (inCo rd false), (uCo (d ++ dj) ro), (uCo (r ++ rj) ro)]) fun v h => v = .bool true ∧ h = hq [(iiCo c false), (inCo od false), (inCo rd false), (uCo (d ++ dj) ro), (uCo (r ++ rj) ro)] := by
 have hlen := hR.len
 refine scall_sd 45 _ 5 kr f6_fn f6_body rfl rfl rfl fun X hX => ?_
 refine sd_run 11 (sdC 12 14 #[(pgV (s5 0 c.length) nd nr hd hr (s1 1 od.length) (s1 2 rd.length) fl nx tg br tk ct (c.length : Int)), (stq q q.pc (.slice (some ⟨3, 0, none⟩) d.length ka) (.slice (some ⟨4, 0, none⟩) r.length kb) q.fl q.cnt)] (@eval_no c od rd nd nr hd hr fl nx tg br tk ct (c.length : Int) q d dj r rj ro ka kb hR hol hrl hi hdb hrb hf) i5_ ⟨iiC_b, inC_b, inC_b, uC_b, uC_b, ⟨⟩⟩ ?_)
 rintro Y v9 k9 ⟨rfl, rfl⟩
 refine mkG (.tuple #[(stq q q.pc (s1 7 d.length) (s1 8 r.length) q.fl q.cnt), .bool false]) [(iiCo c false), (inCo od false), (inCo rd false), (uCo (d ++ dj) ro), (uCo (r ++ rj) ro), some ⟨(pgL (s5 0 c.length) nd nr hd hr (s1 1 od.length) (s1 2 rd.length) fl nx tg br tk ct (c.length : Int)), 32, false⟩, some ⟨(slq q q.pc (.slice (some ⟨3, 0, none⟩) d.length ka) (.slice (some ⟨4, 0, none⟩) r.length kb) q.fl q.cnt), 29, false⟩, (uCo d false), (uCo r false)] ⟨cvs 0 Y, cvs 1 Y, cvs 2 Y, cvs 3 Y, cvs 4 Y, cvo, cvo, uC_c 5, uC_c 6, ⟨⟩⟩ ?_
 refine sd_run 12 (sdCp 18 15 #[(pgV (s5 0 c.length) nd nr hd hr (s1 1 od.length) (s1 2 rd.length) fl nx tg br tk ct (c.length : Int)), (stq q q.pc (.slice (some ⟨3, 0, none⟩) d.length ka) (.slice (some ⟨4, 0, none⟩) r.length kb) q.fl q.cnt)] (@ev19_no c od rd nd nr hd hr fl nx tg br tk ct q d dj r rj ro ka kb hR hcl hol hrl hi hf) i5_ ⟨iiC_b, inC_b, inC_b, uC_b, uC_b, ⟨⟩⟩ ?_)
 rintro v9 k9 ⟨rfl, rfl⟩
 refine ⟨rfl, .tuple #[(stq q q.pc (.slice (some ⟨3, 0, none⟩) d.length ka) (.slice (some ⟨4, 0, none⟩) r.length kb) q.fl q.cnt), .bool false], kr, ?_⟩
 refine sd_run 9 (sd_drawP kr ?_)
 refine svp_go 1 ?_
 refine svp_line ?_
 refine sv_callp 22 16 #[(pgV (s5 0 c.length) nd nr hd hr (s1 1 od.length) (s1 2 rd.length) fl nx tg br tk ct (c.length : Int))] (@right_s c od rd nd nr hd hr fl nx tg br tk ct (c.length : Int) (by omega) (by omega) (by omega) hi) [some 0, some 1, some 2] kr kr kr (hn_of 0 kr ⟨iiC_b, inC_b, inC_b, ⟨⟩⟩) kr kr ?_
 rintro v9 k9 ⟨rfl, rfl⟩
 refine ⟨rfl, .bool (rightB c od rd nd nr hd hr fl tg br ct (c.length : Int)), kr, ?_⟩
 refine sv_see 22 (.bool true) (see_bool kr (rightB_yes hR)) ?_
 refine sv_rd 23 (pgV (s5 0 c.length) nd nr hd hr (s1 1 od.length) (s1 2 rd.length) fl nx tg br tk ct (c.length : Int)) 32 5 0 kr kr kr kr (veqs_c (veq_slice _ _ _) (veqs_c (veq_int _ _) (veqs_c (veq_int _ _) (veqs_c (veq_int _ _) (veqs_c (veq_int _ _) (veqs_c (veq_slice _ _ _) (veqs_c (veq_slice _ _ _) (veqs_c (veq_int _ _) (veqs_c (veq_int _ _) (veqs_c (veq_int _ _) (veqs_c (veq_int _ _) (veqs_c (veq_int _ _) (veqs_c (veq_int _ _) (veqs_c (veq_int _ _) rfl)))))))))))))) kr ?_
 refine sv_callp 24 17 #[(pgV (s5 0 c.length) nd nr hd hr (s1 1 od.length) (s1 2 rd.length) fl nx tg br tk ct (c.length : Int))] (@rright_any c od rd nd nr hd hr fl nx tg br tk ct (c.length : Int) hcl hol hrl hi) [some 0, some 1, some 2] kr kr kr (hn_of 0 kr ⟨iiC_b, inC_b, inC_b, ⟨⟩⟩) kr kr ?_
 rintro v9 k9 ⟨rfl, rfl⟩
 refine ⟨rfl, .bool (rightB c od rd nd nr hd hr fl tg br ct (c.length : Int)), kr, ?_⟩
 refine sv_see 24 (.bool true) (see_bool kr (rightB_yes hR)) ?_
 refine sv_run 4 ?_
 refine sv_callp 29 18 #[(pgV (s5 0 c.length) nd nr hd hr (s1 1 od.length) (s1 2 rd.length) fl nx tg br tk ct (c.length : Int)), (stq q q.pc (.slice (some ⟨3, 0, none⟩) d.length ka) (.slice (some ⟨4, 0, none⟩) r.length kb) q.fl q.cnt)] (@fits_s c od rd nd nr hd hr fl nx tg br tk ct (c.length : Int) q d dj r rj ro ka kb hR hol hrl hi) [some 0, some 1, some 2, some 3, some 4] kr kr kr (hn_of 0 kr ⟨iiC_b, inC_b, inC_b, uC_b, uC_b, ⟨⟩⟩) kr kr ?_
 rintro v9 k9 ⟨rfl, rfl⟩
 refine ⟨rfl, .bool (fitsB nd nr hd hr d r q.fl), kr, ?_⟩
 refine sv_see 29 (.bool false) (see_bool kr hf) ?_
 refine sv_rd 30 (pgV (s5 0 c.length) nd nr hd hr (s1 1 od.length) (s1 2 rd.length) fl nx tg br tk ct (c.length : Int)) 32 5 0 kr kr kr kr (veqs_c (veq_slice _ _ _) (veqs_c (veq_int _ _) (veqs_c (veq_int _ _) (veqs_c (veq_int _ _) (veqs_c (veq_int _ _) (veqs_c (veq_slice _ _ _) (veqs_c (veq_slice _ _ _) (veqs_c (veq_int _ _) (veqs_c (veq_int _ _) (veqs_c (veq_int _ _) (veqs_c (veq_int _ _) (veqs_c (veq_int _ _) (veqs_c (veq_int _ _) (veqs_c (veq_int _ _) rfl)))))))))))))) kr ?_
 refine sv_rd 31 (stq q q.pc (.slice (some ⟨3, 0, none⟩) d.length ka) (.slice (some ⟨4, 0, none⟩) r.length kb) q.fl q.cnt) 29 6 0 kr kr kr kr (veqs_c (veq_int _ _) (veqs_c (veq_slice _ _ _) (veqs_c (veq_slice _ _ _) (veqs_c (veq_int _ _) (veqs_c (by simp [veq, veq0]) (veqs_c (by simp [veq, veq0]) (veqs_c (by simp [veq, veq0]) (veqs_c (veq_int _ _) (veqs_c (veq_int _ _) (veqs_c (veq_int _ _) (veqs_c (veq_int _ _) (veqs_c (veq_int _ _) (veqs_c (by simp [veq, veq0]) (veqs_c (by simp [veq, veq0]) (veqs_c (veq_int _ _) (veqs_c (by simp [veq, veq0]) rfl)))))))))))))))) kr ?_
 refine sv_callp 32 19 #[(pgV (s5 0 c.length) nd nr hd hr (s1 1 od.length) (s1 2 rd.length) fl nx tg br tk ct (c.length : Int)), (stq q q.pc (.slice (some ⟨3, 0, none⟩) d.length ka) (.slice (some ⟨4, 0, none⟩) r.length kb) q.fl q.cnt)] (@fits19_s c od rd nd nr hd hr fl nx tg br tk ct q d dj r rj ro ka kb hR hcl hol hrl hi) [some 0, some 1, some 2, some 3, some 4] kr kr kr (hn_of 0 kr ⟨iiC_b, inC_b, inC_b, uC_b, uC_b, ⟨⟩⟩) kr kr ?_
 rintro v9 k9 ⟨rfl, rfl⟩
 refine ⟨rfl, .bool (fitsB nd nr hd hr d r q.fl), kr, ?_⟩
 refine sv_see 32 (.bool false) (see_bool kr hf) ?_
 refine sv_run 10 ?_
 refine sv_callp 43 20 #[(stq q q.pc (s1 7 d.length) (s1 8 r.length) q.fl q.cnt), (stq q q.pc (.slice (some ⟨3, 0, none⟩) d.length ka) (.slice (some ⟨4, 0, none⟩) r.length kb) q.fl q.cnt)] (@keep_t q d [] dj r [] rj false ro (unk + 1) (unk + 1) ka kb (by first | omega | (simp; done) | (simp; omega)) (by first | omega | (simp; done) | (simp; omega))) [some 7, some 8, some 3, some 4] kr kr kr (hn_of 0 kr ⟨bk_flat (tab uC d) kr (tab_plain uC_pl _) (congrArg (tab uC) (List.append_nil _).symm), bk_flat (tab uC r) kr (tab_plain uC_pl _) (congrArg (tab uC) (List.append_nil _).symm), uC_b, uC_b, ⟨⟩⟩) kr kr ?_
 rintro v9 k9 ⟨rfl, rfl⟩
 refine ⟨rfl, .bool true, kr, ?_⟩
 refine sv_run 2 ?_
 refine sv_end kr ?_
 refine sd_run 2 ?_
 refine sdY (.bool true) hX [(iiCo c false), (inCo od false), (inCo rd false), (uCo (d ++ dj) ro), (uCo (r ++ rj) ro)] i5_ ⟨iiC_b, inC_b, inC_b, uC_b, uC_b, ⟨⟩⟩ ⟨rfl, rfl⟩
set_option maxHeartbeats 2000000 in
theorem same_many {c : List II} {od rd : List Int} {nd nr hd hr fl nx tg br tk ct : Int} {q : Sx} {d dj r rj : List Int} {ro : Bool} {ka kb : Nat} (hR : RightP c od rd nd nr hd hr fl tg br ct (c.length : Int)) (hf : fitsB nd nr hd hr d r q.fl = true) (hm : ((d.length : Int) - nd + (od.length : Int) > 16 ∨ (r.length : Int) - nr + (rd.length : Int) > 16)) (hcl : c.length < 100000) (hol : od.length < 100000) (hrl : rd.length < 100000) (hi : ∀ x ∈ c, 0 ≤ x.2.2.2.2 ∧ x.2.2.2.2 < 4294967296) (hdb : d.length * 4 ≤ 140737488355328) (hrb : r.length * 4 ≤ 140737488355328) (hd32 : V32 d) (hr32 : V32 r) (hfq : 0 ≤ q.fl ∧ q.fl < 4294967296) (hka : CapK ka d.length) (hkb : CapK kb r.length) : SCall Tryd.prog T20 6 #[(pgV (s5 0 c.length) nd nr hd hr (s1 1 od.length) (s1 2 rd.length) fl nx tg br tk ct (c.length : Int)), (stq q q.pc (.slice (some ⟨3, 0, none⟩) d.length ka) (.slice (some ⟨4, 0, none⟩) r.length kb) q.fl q.cnt)] (hq [(iiCo c false), (inCo od false), (inCo rd false), (uCo (d ++ dj) ro), (uCo (r ++ rj) ro)]) fun v h => v = .bool true ∧ h = hq [(iiCo c false), (inCo od false), (inCo rd false), (uCo (d ++ dj) ro), (uCo (r ++ rj) ro)] := by
 have hlen := hR.len
 obtain ⟨⟨f1, f2, f3⟩, ⟨f4, f5⟩, f6, f7⟩ := fitsB_iff.1 hf
 refine scall_sd 45 _ 5 kr f6_fn f6_body rfl rfl rfl fun X hX => ?_
 refine sd_run 11 (sdC 12 14 #[(pgV (s5 0 c.length) nd nr hd hr (s1 1 od.length) (s1 2 rd.length) fl nx tg br tk ct (c.length : Int)), (stq q q.pc (.slice (some ⟨3, 0, none⟩) d.length ka) (.slice (some ⟨4, 0, none⟩) r.length kb) q.fl q.cnt)] (@eval_many c od rd nd nr hd hr fl nx tg br tk ct (c.length : Int) q d dj r rj ro ka kb hR hol hrl hi hd32 hr32 hfq hf hm) i5_ ⟨iiC_b, inC_b, inC_b, uC_b, uC_b, ⟨⟩⟩ ?_)
 rintro Y v9 k9 ⟨rfl, rfl⟩
 refine mkG (.tuple #[(stq q q.pc (s1 7 d.length) (s1 8 r.length) q.fl q.cnt), .bool false]) [(iiCo c false), (inCo od false), (inCo rd false), (uCo (d ++ dj) ro), (uCo (r ++ rj) ro), some ⟨(pgL (s5 0 c.length) nd nr hd hr (s1 1 od.length) (s1 2 rd.length) fl nx tg br tk ct (c.length : Int)), 32, false⟩, some ⟨(slq q q.pc (.slice (some ⟨3, 0, none⟩) d.length ka) (.slice (some ⟨4, 0, none⟩) r.length kb) q.fl q.cnt), 29, false⟩, (uCo d false), (uCo r false)] ⟨cvs 0 Y, cvs 1 Y, cvs 2 Y, cvs 3 Y, cvs 4 Y, cvo, cvo, uC_c 5, uC_c 6, ⟨⟩⟩ ?_
 refine sd_run 12 (sdCp 18 15 #[(pgV (s5 0 c.length) nd nr hd hr (s1 1 od.length) (s1 2 rd.length) fl nx tg br tk ct (c.length : Int)), (stq q q.pc (.slice (some ⟨3, 0, none⟩) d.length ka) (.slice (some ⟨4, 0, none⟩) r.length kb) q.fl q.cnt)] (@ev19_many c od rd nd nr hd hr fl nx tg br tk ct q d dj r rj ro ka kb hR hcl hol hrl hi hd32 hr32 hfq hf hm) i5_ ⟨iiC_b, inC_b, inC_b, uC_b, uC_b, ⟨⟩⟩ ?_)
 rintro v9 k9 ⟨rfl, rfl⟩
 refine ⟨rfl, .tuple #[(stq q q.pc (.slice (some ⟨3, 0, none⟩) d.length ka) (.slice (some ⟨4, 0, none⟩) r.length kb) q.fl q.cnt), .bool false], kr, ?_⟩
 refine sd_run 9 (sd_drawP kr ?_)
 refine svp_go 1 ?_
 refine svp_line ?_
 refine sv_callp 22 16 #[(pgV (s5 0 c.length) nd nr hd hr (s1 1 od.length) (s1 2 rd.length) fl nx tg br tk ct (c.length : Int))] (@right_s c od rd nd nr hd hr fl nx tg br tk ct (c.length : Int) (by omega) (by omega) (by omega) hi) [some 0, some 1, some 2] kr kr kr (hn_of 0 kr ⟨iiC_b, inC_b, inC_b, ⟨⟩⟩) kr kr ?_
 rintro v9 k9 ⟨rfl, rfl⟩
 refine ⟨rfl, .bool (rightB c od rd nd nr hd hr fl tg br ct (c.length : Int)), kr, ?_⟩
 refine sv_see 22 (.bool true) (see_bool kr (rightB_yes hR)) ?_
 refine sv_rd 23 (pgV (s5 0 c.length) nd nr hd hr (s1 1 od.length) (s1 2 rd.length) fl nx tg br tk ct (c.length : Int)) 32 5 0 kr kr kr kr (veqs_c (veq_slice _ _ _) (veqs_c (veq_int _ _) (veqs_c (veq_int _ _) (veqs_c (veq_int _ _) (veqs_c (veq_int _ _) (veqs_c (veq_slice _ _ _) (veqs_c (veq_slice _ _ _) (veqs_c (veq_int _ _) (veqs_c (veq_int _ _) (veqs_c (veq_int _ _) (veqs_c (veq_int _ _) (veqs_c (veq_int _ _) (veqs_c (veq_int _ _) (veqs_c (veq_int _ _) rfl)))))))))))))) kr ?_
 refine sv_callp 24 17 #[(pgV (s5 0 c.length) nd nr hd hr (s1 1 od.length) (s1 2 rd.length) fl nx tg br tk ct (c.length : Int))] (@rright_any c od rd nd nr hd hr fl nx tg br tk ct (c.length : Int) hcl hol hrl hi) [some 0, some 1, some 2] kr kr kr (hn_of 0 kr ⟨iiC_b, inC_b, inC_b, ⟨⟩⟩) kr kr ?_
 rintro v9 k9 ⟨rfl, rfl⟩
 refine ⟨rfl, .bool (rightB c od rd nd nr hd hr fl tg br ct (c.length : Int)), kr, ?_⟩
 refine sv_see 24 (.bool true) (see_bool kr (rightB_yes hR)) ?_
 refine sv_run 4 ?_
 refine sv_callp 29 18 #[(pgV (s5 0 c.length) nd nr hd hr (s1 1 od.length) (s1 2 rd.length) fl nx tg br tk ct (c.length : Int)), (stq q q.pc (.slice (some ⟨3, 0, none⟩) d.length ka) (.slice (some ⟨4, 0, none⟩) r.length kb) q.fl q.cnt)] (@fits_s c od rd nd nr hd hr fl nx tg br tk ct (c.length : Int) q d dj r rj ro ka kb hR hol hrl hi) [some 0, some 1, some 2, some 3, some 4] kr kr kr (hn_of 0 kr ⟨iiC_b, inC_b, inC_b, uC_b, uC_b, ⟨⟩⟩) kr kr ?_
 rintro v9 k9 ⟨rfl, rfl⟩
 refine ⟨rfl, .bool (fitsB nd nr hd hr d r q.fl), kr, ?_⟩
 refine sv_see 29 (.bool true) (see_bool kr hf) ?_
 refine sv_rd 30 (pgV (s5 0 c.length) nd nr hd hr (s1 1 od.length) (s1 2 rd.length) fl nx tg br tk ct (c.length : Int)) 32 5 0 kr kr kr kr (veqs_c (veq_slice _ _ _) (veqs_c (veq_int _ _) (veqs_c (veq_int _ _) (veqs_c (veq_int _ _) (veqs_c (veq_int _ _) (veqs_c (veq_slice _ _ _) (veqs_c (veq_slice _ _ _) (veqs_c (veq_int _ _) (veqs_c (veq_int _ _) (veqs_c (veq_int _ _) (veqs_c (veq_int _ _) (veqs_c (veq_int _ _) (veqs_c (veq_int _ _) (veqs_c (veq_int _ _) rfl)))))))))))))) kr ?_
 refine sv_rd 31 (stq q q.pc (.slice (some ⟨3, 0, none⟩) d.length ka) (.slice (some ⟨4, 0, none⟩) r.length kb) q.fl q.cnt) 29 6 0 kr kr kr kr (veqs_c (veq_int _ _) (veqs_c (veq_slice _ _ _) (veqs_c (veq_slice _ _ _) (veqs_c (veq_int _ _) (veqs_c (by simp [veq, veq0]) (veqs_c (by simp [veq, veq0]) (veqs_c (by simp [veq, veq0]) (veqs_c (veq_int _ _) (veqs_c (veq_int _ _) (veqs_c (veq_int _ _) (veqs_c (veq_int _ _) (veqs_c (veq_int _ _) (veqs_c (by simp [veq, veq0]) (veqs_c (by simp [veq, veq0]) (veqs_c (veq_int _ _) (veqs_c (by simp [veq, veq0]) rfl)))))))))))))))) kr ?_
 refine sv_callp 32 19 #[(pgV (s5 0 c.length) nd nr hd hr (s1 1 od.length) (s1 2 rd.length) fl nx tg br tk ct (c.length : Int)), (stq q q.pc (.slice (some ⟨3, 0, none⟩) d.length ka) (.slice (some ⟨4, 0, none⟩) r.length kb) q.fl q.cnt)] (@fits19_s c od rd nd nr hd hr fl nx tg br tk ct q d dj r rj ro ka kb hR hcl hol hrl hi) [some 0, some 1, some 2, some 3, some 4] kr kr kr (hn_of 0 kr ⟨iiC_b, inC_b, inC_b, uC_b, uC_b, ⟨⟩⟩) kr kr ?_
 rintro v9 k9 ⟨rfl, rfl⟩
 refine ⟨rfl, .bool (fitsB nd nr hd hr d r q.fl), kr, ?_⟩
 refine sv_see 32 (.bool true) (see_bool kr hf) ?_
 refine sv_run 10 ?_
 refine sv_callp 43 20 #[(stq q q.pc (s1 7 d.length) (s1 8 r.length) q.fl q.cnt), (stq q q.pc (.slice (some ⟨3, 0, none⟩) d.length ka) (.slice (some ⟨4, 0, none⟩) r.length kb) q.fl q.cnt)] (@keep_t q d [] dj r [] rj false ro (unk + 1) (unk + 1) ka kb (by first | omega | (simp; done) | (simp; omega)) (by first | omega | (simp; done) | (simp; omega))) [some 7, some 8, some 3, some 4] kr kr kr (hn_of 0 kr ⟨bk_flat (tab uC d) kr (tab_plain uC_pl _) (congrArg (tab uC) (List.append_nil _).symm), bk_flat (tab uC r) kr (tab_plain uC_pl _) (congrArg (tab uC) (List.append_nil _).symm), uC_b, uC_b, ⟨⟩⟩) kr kr ?_
 rintro v9 k9 ⟨rfl, rfl⟩
 refine ⟨rfl, .bool true, kr, ?_⟩
 refine sv_run 2 ?_
 refine sv_end kr ?_
 refine sd_run 2 ?_
 refine sdY (.bool true) hX [(iiCo c false), (inCo od false), (inCo rd false), (uCo (d ++ dj) ro), (uCo (r ++ rj) ro)] i5_ ⟨iiC_b, inC_b, inC_b, uC_b, uC_b, ⟨⟩⟩ ⟨rfl, rfl⟩
set_option maxHeartbeats 2000000 in
theorem same_ok {c : List II} {od rd : List Int} {nd nr hd hr fl nx tg br tk ct : Int} {q : Sx} {d dj r rj : List Int} {ro : Bool} {ka kb : Nat} (hR : RightP c od rd nd nr hd hr fl tg br ct (c.length : Int)) (hf : fitsB nd nr hd hr d r q.fl = true) (hm : ¬ ((d.length : Int) - nd + (od.length : Int) > 16 ∨ (r.length : Int) - nr + (rd.length : Int) > 16)) (hcl : c.length < 100000) (hol : od.length < 100000) (hrl : rd.length < 100000) (hi : ∀ x ∈ c, 0 ≤ x.2.2.2.2 ∧ x.2.2.2.2 < 4294967296) (hdb : d.length * 4 ≤ 140737488355328) (hrb : r.length * 4 ≤ 140737488355328) (hd32 : V32 d) (hr32 : V32 r) (hfq : 0 ≤ q.fl ∧ q.fl < 4294967296) (hka : CapK ka d.length) (hkb : CapK kb r.length) : SCall Tryd.prog T20 6 #[(pgV (s5 0 c.length) nd nr hd hr (s1 1 od.length) (s1 2 rd.length) fl nx tg br tk ct (c.length : Int)), (stq q q.pc (.slice (some ⟨3, 0, none⟩) d.length ka) (.slice (some ⟨4, 0, none⟩) r.length kb) q.fl q.cnt)] (hq [(iiCo c false), (inCo od false), (inCo rd false), (uCo (d ++ dj) ro), (uCo (r ++ rj) ro)]) fun v h => v = .bool true ∧ h = hq [(iiCo c false), (inCo od false), (inCo rd false), (uCo (d ++ dj) ro), (uCo (r ++ rj) ro)] := by
 have hlen := hR.len
 obtain ⟨⟨f1, f2, f3⟩, ⟨f4, f5⟩, f6, f7⟩ := fitsB_iff.1 hf
 refine scall_sd 45 _ 5 kr f6_fn f6_body rfl rfl rfl fun X hX => ?_
 refine sd_run 11 (sdC 12 14 #[(pgV (s5 0 c.length) nd nr hd hr (s1 1 od.length) (s1 2 rd.length) fl nx tg br tk ct (c.length : Int)), (stq q q.pc (.slice (some ⟨3, 0, none⟩) d.length ka) (.slice (some ⟨4, 0, none⟩) r.length kb) q.fl q.cnt)] (@eval_ok c od rd nd nr hd hr fl nx tg br tk ct (c.length : Int) q d dj r rj ro ka kb hR hol hrl hi hd32 hr32 hfq hf hm hka hkb) i5_ ⟨iiC_b, inC_b, inC_b, uC_b, uC_b, ⟨⟩⟩ ?_)
 rintro Y v9 k9 ⟨fl10_, pc10_, q1_0, q1_1, rfl, rfl⟩
 refine mkG (.tuple #[(stq q pc10_ (s1 7 ((putL (evV c d r c.length) d nd.toNat od).length)) (s1 8 ((putL (evV c d r c.length) r nr.toNat rd).length)) fl10_ (IntKind.u64.wrap (q.cnt + ct))), .bool true]) [(iiCo c false), (inCo od false), (inCo rd false), (uCo (d ++ dj) ro), (uCo (r ++ rj) ro), some ⟨(pgL (s5 0 c.length) nd nr hd hr (s1 1 od.length) (s1 2 rd.length) fl nx tg br tk ct (c.length : Int)), 32, false⟩, some ⟨(slq q q.pc (.slice (some ⟨3, 0, none⟩) d.length ka) (.slice (some ⟨4, 0, none⟩) r.length kb) q.fl q.cnt), 29, false⟩, (uCo (putL (evV c d r c.length) d nd.toNat od) false), (uCo (putL (evV c d r c.length) r nr.toNat rd) false)] ⟨cvs 0 Y, cvs 1 Y, cvs 2 Y, cvs 3 Y, cvs 4 Y, cvo, cvo, uC_c 5, uC_c 6, ⟨⟩⟩ ?_
 refine sd_run 12 (sdC 18 15 #[(pgV (s5 0 c.length) nd nr hd hr (s1 1 od.length) (s1 2 rd.length) fl nx tg br tk ct (c.length : Int)), (stq q q.pc (.slice (some ⟨3, 0, none⟩) d.length ka) (.slice (some ⟨4, 0, none⟩) r.length kb) q.fl q.cnt)] (@ev19_ok c od rd nd nr hd hr fl nx tg br tk ct q d dj r rj ro ka kb hR hcl hol hrl hi hd32 hr32 hfq hf hm) i5_ ⟨iiC_b, inC_b, inC_b, uC_b, uC_b, ⟨⟩⟩ ?_)
 rintro Y v9 k9 ⟨fl11_, pc11_, dj91_, rj91_, q2_0, q2_1, rfl, rfl⟩
 refine mkG (.tuple #[(stq q pc11_ (s1 10 ((putL (evV c d r c.length) d nd.toNat od).length)) (s1 11 ((putL (evV c d r c.length) r nr.toNat rd).length)) fl11_ (IntKind.u64.wrap (q.cnt + ct))), .bool true]) [(iiCo c false), (inCo od false), (inCo rd false), (uCo (d ++ dj) ro), (uCo (r ++ rj) ro), some ⟨(pgL (s5 0 c.length) nd nr hd hr (s1 1 od.length) (s1 2 rd.length) fl nx tg br tk ct (c.length : Int)), 32, false⟩, some ⟨(slq q q.pc (.slice (some ⟨3, 0, none⟩) d.length ka) (.slice (some ⟨4, 0, none⟩) r.length kb) q.fl q.cnt), 29, false⟩, (uCo (putL (evV c d r c.length) d nd.toNat od) false), (uCo (putL (evV c d r c.length) r nr.toNat rd) false), some ⟨(slq q pc10_ (s1 7 ((putL (evV c d r c.length) d nd.toNat od).length)) (s1 8 ((putL (evV c d r c.length) r nr.toNat rd).length)) fl10_ (IntKind.u64.wrap (q.cnt + ct))), 29, false⟩, (uCo ((putL (evV c d r c.length) d nd.toNat od) ++ dj91_) false), (uCo ((putL (evV c d r c.length) r nr.toNat rd) ++ rj91_) false)] ⟨cvs 0 Y, cvs 1 Y, cvs 2 Y, cvs 3 Y, cvs 4 Y, cvo, cvo, cvo, cvo, cvo, uC_c 5, uC_c 6, ⟨⟩⟩ ?_
 refine sd_run 9 ?_
 have hfe : fl10_ = fl11_ := q1_0.trans q2_0.symm
 subst hfe
 have hpe : pc10_ = pc11_ := q1_1.trans q2_1.symm
 subst hpe
 have hD9 := putL_le (evV c d r c.length) d nd.toNat od
 have hR9 := putL_le (evV c d r c.length) r nr.toNat rd
 refine sd_drawP kr ?_
 refine svp_go 1 ?_
 refine svp_line ?_
 refine sv_callp 22 16 #[(pgV (s5 0 c.length) nd nr hd hr (s1 1 od.length) (s1 2 rd.length) fl nx tg br tk ct (c.length : Int))] (@right_s c od rd nd nr hd hr fl nx tg br tk ct (c.length : Int) (by omega) (by omega) (by omega) hi) [some 0, some 1, some 2] kr kr kr (hn_of 0 kr ⟨iiC_b, inC_b, inC_b, ⟨⟩⟩) kr kr ?_
 rintro v9 k9 ⟨rfl, rfl⟩
 refine ⟨rfl, .bool (rightB c od rd nd nr hd hr fl tg br ct (c.length : Int)), kr, ?_⟩
 refine sv_see 22 (.bool true) (see_bool kr (rightB_yes hR)) ?_
 refine sv_rd 23 (pgV (s5 0 c.length) nd nr hd hr (s1 1 od.length) (s1 2 rd.length) fl nx tg br tk ct (c.length : Int)) 32 5 0 kr kr kr kr (veqs_c (veq_slice _ _ _) (veqs_c (veq_int _ _) (veqs_c (veq_int _ _) (veqs_c (veq_int _ _) (veqs_c (veq_int _ _) (veqs_c (veq_slice _ _ _) (veqs_c (veq_slice _ _ _) (veqs_c (veq_int _ _) (veqs_c (veq_int _ _) (veqs_c (veq_int _ _) (veqs_c (veq_int _ _) (veqs_c (veq_int _ _) (veqs_c (veq_int _ _) (veqs_c (veq_int _ _) rfl)))))))))))))) kr ?_
 refine sv_callp 24 17 #[(pgV (s5 0 c.length) nd nr hd hr (s1 1 od.length) (s1 2 rd.length) fl nx tg br tk ct (c.length : Int))] (@rright_any c od rd nd nr hd hr fl nx tg br tk ct (c.length : Int) hcl hol hrl hi) [some 0, some 1, some 2] kr kr kr (hn_of 0 kr ⟨iiC_b, inC_b, inC_b, ⟨⟩⟩) kr kr ?_
 rintro v9 k9 ⟨rfl, rfl⟩
 refine ⟨rfl, .bool (rightB c od rd nd nr hd hr fl tg br ct (c.length : Int)), kr, ?_⟩
 refine sv_see 24 (.bool true) (see_bool kr (rightB_yes hR)) ?_
 refine sv_run 4 ?_
 refine sv_callp 29 18 #[(pgV (s5 0 c.length) nd nr hd hr (s1 1 od.length) (s1 2 rd.length) fl nx tg br tk ct (c.length : Int)), (stq q q.pc (.slice (some ⟨3, 0, none⟩) d.length ka) (.slice (some ⟨4, 0, none⟩) r.length kb) q.fl q.cnt)] (@fits_s c od rd nd nr hd hr fl nx tg br tk ct (c.length : Int) q d dj r rj ro ka kb hR hol hrl hi) [some 0, some 1, some 2, some 3, some 4] kr kr kr (hn_of 0 kr ⟨iiC_b, inC_b, inC_b, uC_b, uC_b, ⟨⟩⟩) kr kr ?_
 rintro v9 k9 ⟨rfl, rfl⟩
 refine ⟨rfl, .bool (fitsB nd nr hd hr d r q.fl), kr, ?_⟩
 refine sv_see 29 (.bool true) (see_bool kr hf) ?_
 refine sv_rd 30 (pgV (s5 0 c.length) nd nr hd hr (s1 1 od.length) (s1 2 rd.length) fl nx tg br tk ct (c.length : Int)) 32 5 0 kr kr kr kr (veqs_c (veq_slice _ _ _) (veqs_c (veq_int _ _) (veqs_c (veq_int _ _) (veqs_c (veq_int _ _) (veqs_c (veq_int _ _) (veqs_c (veq_slice _ _ _) (veqs_c (veq_slice _ _ _) (veqs_c (veq_int _ _) (veqs_c (veq_int _ _) (veqs_c (veq_int _ _) (veqs_c (veq_int _ _) (veqs_c (veq_int _ _) (veqs_c (veq_int _ _) (veqs_c (veq_int _ _) rfl)))))))))))))) kr ?_
 refine sv_rd 31 (stq q q.pc (.slice (some ⟨3, 0, none⟩) d.length ka) (.slice (some ⟨4, 0, none⟩) r.length kb) q.fl q.cnt) 29 6 0 kr kr kr kr (veqs_c (veq_int _ _) (veqs_c (veq_slice _ _ _) (veqs_c (veq_slice _ _ _) (veqs_c (veq_int _ _) (veqs_c (by simp [veq, veq0]) (veqs_c (by simp [veq, veq0]) (veqs_c (by simp [veq, veq0]) (veqs_c (veq_int _ _) (veqs_c (veq_int _ _) (veqs_c (veq_int _ _) (veqs_c (veq_int _ _) (veqs_c (veq_int _ _) (veqs_c (by simp [veq, veq0]) (veqs_c (by simp [veq, veq0]) (veqs_c (veq_int _ _) (veqs_c (by simp [veq, veq0]) rfl)))))))))))))))) kr ?_
 refine sv_callp 32 19 #[(pgV (s5 0 c.length) nd nr hd hr (s1 1 od.length) (s1 2 rd.length) fl nx tg br tk ct (c.length : Int)), (stq q q.pc (.slice (some ⟨3, 0, none⟩) d.length ka) (.slice (some ⟨4, 0, none⟩) r.length kb) q.fl q.cnt)] (@fits19_s c od rd nd nr hd hr fl nx tg br tk ct q d dj r rj ro ka kb hR hcl hol hrl hi) [some 0, some 1, some 2, some 3, some 4] kr kr kr (hn_of 0 kr ⟨iiC_b, inC_b, inC_b, uC_b, uC_b, ⟨⟩⟩) kr kr ?_
 rintro v9 k9 ⟨rfl, rfl⟩
 refine ⟨rfl, .bool (fitsB nd nr hd hr d r q.fl), kr, ?_⟩
 refine sv_see 32 (.bool true) (see_bool kr hf) ?_
 refine sv_run 10 ?_
 refine sv_callp 43 20 #[(stq q pc10_ (s1 7 ((putL (evV c d r c.length) d nd.toNat od).length)) (s1 8 ((putL (evV c d r c.length) r nr.toNat rd).length)) fl10_ (IntKind.u64.wrap (q.cnt + ct))), (stq q pc10_ (s1 10 ((putL (evV c d r c.length) d nd.toNat od).length)) (s1 11 ((putL (evV c d r c.length) r nr.toNat rd).length)) fl10_ (IntKind.u64.wrap (q.cnt + ct)))] (@keep_t (⟨pc10_, fl10_, q.root, q.vec, q.epc, q.cause, q.addr, (IntKind.u64.wrap (q.cnt + ct)), q.su, q.pg, q.ie, q.es, q.ei, q.ha⟩ : Sx) (putL (evV c d r c.length) d nd.toNat od) [] dj91_ (putL (evV c d r c.length) r nr.toNat rd) [] rj91_ false false (unk + 1) (unk + 1) (unk + 1) (unk + 1) (by first | omega | (simp; done) | (simp; omega)) (by first | omega | (simp; done) | (simp; omega))) [some 7, some 8, some 10, some 11] kr kr kr (hn_of 0 kr ⟨bk_flat (tab uC (putL (evV c d r c.length) d nd.toNat od)) kr (tab_plain uC_pl _) (congrArg (tab uC) (List.append_nil _).symm), bk_flat (tab uC (putL (evV c d r c.length) r nr.toNat rd)) kr (tab_plain uC_pl _) (congrArg (tab uC) (List.append_nil _).symm), uC_b, uC_b, ⟨⟩⟩) kr kr ?_
 rintro v9 k9 ⟨rfl, rfl⟩
 refine ⟨rfl, .bool true, kr, ?_⟩
 refine sv_run 2 ?_
 refine sv_end kr ?_
 refine sd_run 2 ?_
 refine sdY (.bool true) hX [(iiCo c false), (inCo od false), (inCo rd false), (uCo (d ++ dj) ro), (uCo (r ++ rj) ro)] i5_ ⟨iiC_b, inC_b, inC_b, uC_b, uC_b, ⟨⟩⟩ ⟨rfl, rfl⟩
theorem same_s {c : List II} {od rd : List Int} {nd nr hd hr fl nx tg br tk ct vs : Int} {q : Sx} {d dj r rj : List Int} {ro : Bool} {ka kb : Nat} (hcl : c.length < 100000) (hol : od.length < 100000) (hrl : rd.length < 100000) (hi : ∀ x ∈ c, 0 ≤ x.2.2.2.2 ∧ x.2.2.2.2 < 4294967296) (hdb : d.length * 4 ≤ 140737488355328) (hrb : r.length * 4 ≤ 140737488355328) (hd32 : V32 d) (hr32 : V32 r) (hfq : 0 ≤ q.fl ∧ q.fl < 4294967296) (hka : CapK ka d.length) (hkb : CapK kb r.length) : SCall Tryd.prog T20 6 #[(pgV (s5 0 c.length) nd nr hd hr (s1 1 od.length) (s1 2 rd.length) fl nx tg br tk ct vs), (stq q q.pc (.slice (some ⟨3, 0, none⟩) d.length ka) (.slice (some ⟨4, 0, none⟩) r.length kb) q.fl q.cnt)] (hq [(iiCo c false), (inCo od false), (inCo rd false), (uCo (d ++ dj) ro), (uCo (r ++ rj) ro)]) fun v h => v = .bool true ∧ h = hq [(iiCo c false), (inCo od false), (inCo rd false), (uCo (d ++ dj) ro), (uCo (r ++ rj) ro)] := by
 rcases Bool.eq_false_or_eq_true (rightB c od rd nd nr hd hr fl tg br ct vs) with hb | hb
 ·have hR : RightP c od rd nd nr hd hr fl tg br ct vs := by unfold rightB at hb; exact of_decide_eq_true hb
  obtain rfl : vs = (c.length : Int) := hR.vs_
  rcases Bool.eq_false_or_eq_true (fitsB nd nr hd hr d r q.fl) with hf | hf
  ·by_cases hm : ((d.length : Int) - nd + (od.length : Int) > 16 ∨ (r.length : Int) - nr + (rd.length : Int) > 16)
   ·exact same_many hR hf hm hcl hol hrl hi hdb hrb hd32 hr32 hfq hka hkb
   ·exact same_ok hR hf hm hcl hol hrl hi hdb hrb hd32 hr32 hfq hka hkb
  ·exact same_no hR hf hcl hol hrl hi hdb hrb hd32 hr32 hfq hka hkb
 ·exact same_bad hb hcl hol hrl hi hdb hrb hd32 hr32 hfq hka hkb
end Ls
end Go.Proofs.YtgpphhdndmdlgaaDoor
