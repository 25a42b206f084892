/- Chapter 21: plans: what a plan does is the block. -/
import Derived.Test.YtegjicaoemhhlaaLd
import Derived.Test.YtegjicaoemhhlaaLe
import Derived.Test.YtegjicaoemhhlaaJw
import Derived.Test.YtegjicaoemhhlaaJs
namespace Go.Proofs.Ytegjicaoemhhlaa
open Go Go.Ev Go.RowKit
set_option linter.unusedVariables false
set_option linter.unusedSimpArgs false
set_option maxRecDepth 100000
namespace Ls
theorem PlanN.more {l : List IV} {k k' n : Nat} {rg sl : List Int} {slots : Int} (h : PlanN l k n rg sl slots) (hk : k ≤ k') : PlanN l k' n rg sl slots where
 lr := h.lr
 ls := h.ls
 s0 := h.s0
 late := h.late
 place := fun i r s hi h1 h2 => by
  rcases h.place i r s hi h1 h2 with ⟨a, b, c⟩ | q
  ·exact .inl ⟨a, by omega, c⟩
  ·exact .inr q
 apR := h.apR
 apS := h.apS
theorem getD_at {l : List Int} {i : Nat} (h : i < l.length) : l[i]? = some (l.getD i 0) := by
 rw [List.getD_eq_getElem?_getD, List.getElem?_eq_getElem h]; rfl
theorem PlanN.right {l : List IV} {k : Nat} {rg sl : List Int} {slots : Int} (h : PlanN l k l.length rg sl slots) : planB l k rg sl slots = true := by
 have h1 : placesB k slots rg sl l.length = true := placesB_iff.2 fun i hi => by
  have q := h.place i _ _ hi (getD_at (by rw [h.lr]; exact hi)) (getD_at (by rw [h.ls]; exact hi))
  unfold placeB
  simp only [Bool.or_eq_true, decide_eq_true_eq]
  omega
 have h2 : apartB l rg = true := apartB_iff.2 fun i j hi hj => by
  unfold clashB
  by_cases q : rg.getD i 0 ≠ -1 ∧ rg.getD i 0 = rg.getD j 0
  ·have := h.apR j i (rg.getD i 0) hj hi (by rw [q.2]; exact getD_at (by rw [h.lr]; omega)) (getD_at (by rw [h.lr]; exact hi)) q.1
   rw [meetN_comm, this, Bool.and_false]
  ·rw [← Bool.decide_and, decide_eq_false q, Bool.false_and]
 have h3 : apartB l sl = true := apartB_iff.2 fun i j hi hj => by
  unfold clashB
  by_cases q : sl.getD i 0 ≠ -1 ∧ sl.getD i 0 = sl.getD j 0
  ·have := h.apS j i (sl.getD i 0) hj hi (by rw [q.2]; exact getD_at (by rw [h.ls]; omega)) (getD_at (by rw [h.ls]; exact hi)) q.1
   rw [meetN_comm, this, Bool.and_false]
  ·rw [← Bool.decide_and, decide_eq_false q, Bool.false_and]
 unfold planB; rw [h1, h2, h3]; rfl
theorem press_all {l : List IV} (hl : Ivs l) {v n : Nat} (hn : n = l.length) (h : ∀ (i : Nat) (a : IV), l[i]? = some a → cntAt l a.2.1 ≤ v) : ∀ i : Nat, i < n → cntAt l (i : Int) ≤ v := fun i hi => by
 have ha : l[i]? = some l[i] := List.getElem?_eq_getElem (by omega)
 have := h i _ ha
 rw [(hl.at_ i _ ha).1] at this; exact this
theorem putL_le (V l : List Int) (n : Nat) (out : List Int) : (putL V l n out).length ≤ l.length + out.length := by unfold putL; rw [List.length_append, List.length_take, List.length_map]; omega
noncomputable def f7b : Code := Try.f7.body.getD .skip
theorem f7_body : Try.f7.body = some f7b := by kernel_rfl
theorem f7_fn : T16.fn 7 = some Try.f7 := by kernel_rfl
set_option maxHeartbeats 4000000 in
theorem plans_s {c : List II} {od rd : List Int} {nd nr hd hr fl nx tg br tk ct : Int} {q : Sx} {d dj r rj : List Int} {ro : Bool} {ka kb : Nat} {k : Nat} (hR : RightP c od rd nd nr hd hr fl tg br ct (c.length : Int)) (hcl : c.length < 100000) (hol : od.length < 100000) (hrl : rd.length < 100000) (hi : ∀ x ∈ c, 0 ≤ x.2.2.2.2 ∧ x.2.2.2.2 < 4294967296) (hk : 1 ≤ k ∧ k ≤ 16) (hd32 : V32 d) (hr32 : V32 r) (hfq : 0 ≤ q.fl ∧ q.fl < 4294967296) (hdl : d.length ≤ 16) (hrl2 : r.length ≤ 16) (hka : CapK ka d.length) (hkb : CapK kb r.length) : SCall Try.prog T16 7 #[(pgV (s5 0 c.length) nd nr hd hr (s1 1 od.length) (s1 2 rd.length) fl nx tg br tk ct (c.length : Int)), .int .i64 (k : Int), (stq q q.pc (.slice (some ⟨3, 0, none⟩) d.length ka) (.slice (some ⟨4, 0, none⟩) r.length kb) q.fl q.cnt)] (hq [(iiCo c false), (inCo od false), (inCo rd false), (uCo (d ++ dj) ro), (uCo (r ++ rj) ro)]) fun v h => v = .bool true ∧ h = hq [(iiCo c false), (inCo od false), (inCo rd false), (uCo (d ++ dj) ro), (uCo (r ++ rj) ro)] := by
 have hlen := hR.len
 have hIv := ivs_of hR
 refine scall_sd 102 _ 5 kr f7_fn f7_body rfl rfl rfl fun X hX => ?_
 refine sd_run 11 (sdC 16 11 #[(pgV (s5 0 c.length) nd nr hd hr (s1 1 od.length) (s1 2 rd.length) fl nx tg br tk ct (c.length : Int)), .int .i64 (k : Int)] (@do_s c od rd nd nr hd hr fl nx tg br tk ct k hR hcl hol hrl hi hk) i3_ ⟨iiC_b, inC_b, inC_b, ⟨⟩⟩ ?_)
 rintro hn9 v9 k9 ⟨rg0_, sl0_, slots0_, q1_0, q1_1, rfl, rfl⟩
 refine mkG (.tuple #[.agg #[.slice (some ⟨7, 0, none⟩) c.length c.length, .slice (some ⟨8, 0, none⟩) c.length c.length, .int .i64 slots0_], .int .i64 0]) [(iiCo c false), (inCo od false), (inCo rd false), (uCo (d ++ dj) ro), (uCo (r ++ rj) ro), some ⟨[(s5 0 c.length), .int .i64 nd, .int .i64 nr, .int .i64 hd, .int .i64 hr, (s1 1 od.length), (s1 2 rd.length), .int .i64 fl, .int .u32 nx, .int .i64 tg, .int .i64 br, .int .u32 tk, .int .i64 ct, .int .i64 (c.length : Int)], 29, false⟩, some ⟨(slq q q.pc (.slice (some ⟨3, 0, none⟩) d.length ka) (.slice (some ⟨4, 0, none⟩) r.length kb) q.fl q.cnt), 34, false⟩, (inCo rg0_ false), (inCo sl0_ false)] ⟨cvs 0 hn9, cvs 1 hn9, cvs 2 hn9, cvo, cvo, cvo, cvo, inC_c 3, inC_c 4, ⟨⟩⟩ ?_
 have hrg9 : rg0_.length = c.length := by rw [q1_0.lr, ofL_len]
 have hsl9 : sl0_.length = c.length := by rw [q1_0.ls, ofL_len]
 have hs09 := q1_0.s0
 have hpn9 : PlanN (ofL c od rd fl tg) k (ofL c od rd fl tg).length rg0_ sl0_ slots0_ := by rw [ofL_len]; exact q1_0
 refine sd_run 12 (sdCp 20 20 #[(pgV (s5 0 c.length) nd nr hd hr (s1 1 od.length) (s1 2 rd.length) fl nx tg br tk ct (c.length : Int))] (@rright_s c od rd nd nr hd hr fl nx tg br tk ct hR hol hrl hi) i3_ ⟨iiC_b, inC_b, inC_b, ⟨⟩⟩ ?_)
 rintro v9 k9 ⟨rfl, rfl⟩
 refine ⟨rfl, .bool true, kr, ?_⟩
 refine sd_run 4 (sdF 24 ((k : Int) < 1) (by omega) kr (sd_run 4 (sdF 28 ((k : Int) > 16) (by omega) kr (sd_run 20 (sdCp 60 21 #[(pgV (s5 0 c.length) nd nr hd hr (s1 1 od.length) (s1 2 rd.length) fl nx tg br tk ct (c.length : Int)), .slice (some ⟨7, 0, none⟩) c.length c.length, .slice (some ⟨8, 0, none⟩) c.length c.length, .int .i64 slots0_, .int .i64 (k : Int)] (@right21_s c od rd nd nr hd hr fl nx tg br tk ct rg0_ sl0_ slots0_ k c.length c.length hR hcl hol hrl hi hk q1_0) [some 0, some 1, some 2, some 7, some 8] ⟨iiC_b, inC_b, inC_b, inC_b, inC_b, ⟨⟩⟩ ?_)))))
 rintro v9 k9 ⟨rfl, rfl⟩
 refine ⟨rfl, .bool true, kr, ?_⟩
 refine sd_run 6 (sdCp 67 12 #[(pgV (s5 0 c.length) nd nr hd hr (s1 1 od.length) (s1 2 rd.length) fl nx tg br tk ct (c.length : Int)), .agg #[.slice (some ⟨7, 0, none⟩) c.length c.length, .slice (some ⟨8, 0, none⟩) c.length c.length, .int .i64 slots0_], .int .i64 (k : Int)] (@pright_s c od rd nd nr hd hr fl nx tg br tk ct rg0_ sl0_ slots0_ k c.length c.length hR hcl hol hrl hi hrg9 hsl9 (by omega) hk) [some 0, some 1, some 2, some 7, some 8] ⟨iiC_b, inC_b, inC_b, inC_b, inC_b, ⟨⟩⟩ ?_)
 rintro v9 k9 ⟨rfl, rfl⟩
 refine ⟨rfl, .bool (planB (ofL c od rd fl tg) k rg0_ sl0_ slots0_), kr, ?_⟩
 refine sd_see 67 (.bool true) (see_bool kr hpn9.right) (sd_run 11 (sdC 71 16 #[(pgV (s5 0 c.length) nd nr hd hr (s1 1 od.length) (s1 2 rd.length) fl nx tg br tk ct (c.length : Int))] (@of20_s c od rd nd nr hd hr fl nx tg br tk ct hR hcl hol hrl hi) i3_ ⟨iiC_b, inC_b, inC_b, ⟨⟩⟩ ?_))
 rintro hn9 v9 k9 ⟨rfl, rfl⟩
 refine mkG (.slice (some ⟨10, 0, none⟩) c.length (unk + 3)) [(iiCo c false), (inCo od false), (inCo rd false), (uCo (d ++ dj) ro), (uCo (r ++ rj) ro), some ⟨[(s5 0 c.length), .int .i64 nd, .int .i64 nr, .int .i64 hd, .int .i64 hr, (s1 1 od.length), (s1 2 rd.length), .int .i64 fl, .int .u32 nx, .int .i64 tg, .int .i64 br, .int .u32 tk, .int .i64 ct, .int .i64 (c.length : Int)], 29, false⟩, some ⟨(slq q q.pc (.slice (some ⟨3, 0, none⟩) d.length ka) (.slice (some ⟨4, 0, none⟩) r.length kb) q.fl q.cnt), 34, false⟩, (inCo rg0_ false), (inCo sl0_ false), some ⟨[Value.slice (some ⟨7, 0, none⟩) c.length c.length, .slice (some ⟨8, 0, none⟩) c.length c.length, .int .i64 slots0_], 38, false⟩, some ⟨(tab ivC (ofL c od rd fl tg)), 53, false⟩] ⟨cvs 0 hn9, cvs 1 hn9, cvs 2 hn9, cvo, cvo, cvo, cvo, cvo, cvo, cvo, ivC_c 3, ⟨⟩⟩ ?_
 refine sdCp 72 15 #[.slice (some ⟨10, 0, none⟩) c.length (unk + 3)] (@press20_s (ofL c od rd fl tg) c.length (unk + 3) (by rw [ofL_len]) (by rw [ofL_len]; omega)) [some 10] ⟨ivC_b, ⟨⟩⟩ ?_
 rintro v9 k9 ⟨pv1_, q2_0, q2_1, rfl, rfl⟩
 refine ⟨rfl, .int .i64 (pv1_ : Int), kr, ?_⟩
 by_cases hpk : pv1_ ≤ k
 ·skip
  have hz9 : slots0_ = 0 := q1_1 fun i9 hi9 => Nat.le_trans (press_all hIv (by rw [ofL_len]) q2_0 i9 hi9) hpk
  subst hz9
  refine sd_run 2 (sdT 74 ((pv1_ : Int) ≤ (k : Int)) (by omega) kr (sd_run 11 ?_))
  rcases Bool.eq_false_or_eq_true (fitsB nd nr hd hr d r q.fl) with hf | hf
  ·skip
   by_cases hm : ((d.length : Int) - nd + (od.length : Int) > 16 ∨ (r.length : Int) - nr + (rd.length : Int) > 16)
   ·skip
    refine sd_run 5 (sdC 85 14 #[(pgV (s5 0 c.length) nd nr hd hr (s1 1 od.length) (s1 2 rd.length) fl nx tg br tk ct (c.length : Int)), .agg #[.slice (some ⟨7, 0, none⟩) c.length c.length, .slice (some ⟨8, 0, none⟩) c.length c.length, .int .i64 0], .int .i64 (k : Int), (stq q q.pc (.slice (some ⟨3, 0, none⟩) d.length ka) (.slice (some ⟨4, 0, none⟩) r.length kb) q.fl q.cnt)] (@pl_many c od rd nd nr hd hr fl nx tg br tk ct q d dj r rj ro rg0_ sl0_ 0 k c.length c.length ka kb hR hcl hol hrl hi hrg9 hsl9 (by omega) hk hd32 hr32 hfq hpn9.right hf hm) [some 0, some 1, some 2, some 3, some 4, some 7, some 8] ⟨iiC_b, inC_b, inC_b, uC_b, uC_b, inC_b, inC_b, ⟨⟩⟩ ?_)
    rintro hn9 v9 k9 ⟨rfl, rfl⟩
    refine mkG (.tuple #[(stq q q.pc (s1 11 d.length) (s1 12 r.length) q.fl q.cnt), .bool false]) [(iiCo c false), (inCo od false), (inCo rd false), (uCo (d ++ dj) ro), (uCo (r ++ rj) ro), some ⟨[(s5 0 c.length), .int .i64 nd, .int .i64 nr, .int .i64 hd, .int .i64 hr, (s1 1 od.length), (s1 2 rd.length), .int .i64 fl, .int .u32 nx, .int .i64 tg, .int .i64 br, .int .u32 tk, .int .i64 ct, .int .i64 (c.length : Int)], 29, false⟩, some ⟨(slq q q.pc (.slice (some ⟨3, 0, none⟩) d.length ka) (.slice (some ⟨4, 0, none⟩) r.length kb) q.fl q.cnt), 34, false⟩, (inCo rg0_ false), (inCo sl0_ false), some ⟨[Value.slice (some ⟨7, 0, none⟩) c.length c.length, .slice (some ⟨8, 0, none⟩) c.length c.length, .int .i64 0], 38, false⟩, some ⟨(tab ivC (ofL c od rd fl tg)), 53, false⟩, (uCo d false), (uCo r false)] ⟨cvs 0 hn9, cvs 1 hn9, cvs 2 hn9, cvs 3 hn9, cvs 4 hn9, cvo, cvo, cvs 5 hn9, cvs 6 hn9, cvo, cvo, uC_c 7, uC_c 8, ⟨⟩⟩ ?_
    refine sd_run 12 (sdCp 91 22 #[(pgV (s5 0 c.length) nd nr hd hr (s1 1 od.length) (s1 2 rd.length) fl nx tg br tk ct (c.length : Int)), (stq q q.pc (.slice (some ⟨3, 0, none⟩) d.length ka) (.slice (some ⟨4, 0, none⟩) r.length kb) q.fl q.cnt)] (@ev19_many c od rd nd nr hd hr fl nx tg br tk ct q d dj r rj ro ka kb hR hcl hol hrl hi hd32 hr32 hfq hf hm) i5_ ⟨iiC_b, inC_b, inC_b, uC_b, uC_b, ⟨⟩⟩ ?_)
    rintro v9 k9 ⟨rfl, rfl⟩
    refine ⟨rfl, .tuple #[(stq q q.pc (.slice (some ⟨3, 0, none⟩) d.length ka) (.slice (some ⟨4, 0, none⟩) r.length kb) q.fl q.cnt), .bool false], kr, ?_⟩
    refine sd_run 9 (sd_run 7 (sdCp 100 17 #[(stq q q.pc (s1 11 d.length) (s1 12 r.length) q.fl q.cnt), (stq q q.pc (.slice (some ⟨3, 0, none⟩) d.length ka) (.slice (some ⟨4, 0, none⟩) r.length kb) q.fl q.cnt)] (@keep_t q d [] dj r [] rj false ro (unk + 1) (unk + 1) ka kb (by omega) (by omega)) [some 11, some 12, some 3, some 4] ⟨bk_flat (tab uC d) kr (tab_plain uC_pl _) (congrArg (tab uC) (List.append_nil _).symm), bk_flat (tab uC r) kr (tab_plain uC_pl _) (congrArg (tab uC) (List.append_nil _).symm), uC_b, uC_b, ⟨⟩⟩ ?_))
    rintro v9 k9 ⟨rfl, rfl⟩
    refine ⟨rfl, .bool true, kr, ?_⟩
    refine sd_run 5 ?_
    refine sdY (.bool true) hX [(iiCo c false), (inCo od false), (inCo rd false), (uCo (d ++ dj) ro), (uCo (r ++ rj) ro)] i5_ ⟨iiC_b, inC_b, inC_b, uC_b, uC_b, ⟨⟩⟩ ⟨rfl, rfl⟩
   ·skip
    refine sd_run 5 (sdC 85 14 #[(pgV (s5 0 c.length) nd nr hd hr (s1 1 od.length) (s1 2 rd.length) fl nx tg br tk ct (c.length : Int)), .agg #[.slice (some ⟨7, 0, none⟩) c.length c.length, .slice (some ⟨8, 0, none⟩) c.length c.length, .int .i64 0], .int .i64 (k : Int), (stq q q.pc (.slice (some ⟨3, 0, none⟩) d.length ka) (.slice (some ⟨4, 0, none⟩) r.length kb) q.fl q.cnt)] (@pl_ok c od rd nd nr hd hr fl nx tg br tk ct q d dj r rj ro rg0_ sl0_ 0 k c.length c.length ka kb hR hcl hol hrl hi hrg9 hsl9 (by omega) hk hd32 hr32 hfq hpn9.right hf hm hka hkb) [some 0, some 1, some 2, some 3, some 4, some 7, some 8] ⟨iiC_b, inC_b, inC_b, uC_b, uC_b, inC_b, inC_b, ⟨⟩⟩ ?_)
    rintro hn9 v9 k9 ⟨fl12_, pc12_, q3_0, q3_1, rfl, rfl⟩
    refine mkG (.tuple #[(stq q pc12_ (s1 11 ((putL (evW c d r rg0_ sl0_ c.length) d nd.toNat od).length)) (s1 12 ((putL (evW c d r rg0_ sl0_ c.length) r nr.toNat rd).length)) fl12_ (IntKind.u64.wrap (q.cnt + ct))), .bool true]) [(iiCo c false), (inCo od false), (inCo rd false), (uCo (d ++ dj) ro), (uCo (r ++ rj) ro), some ⟨[(s5 0 c.length), .int .i64 nd, .int .i64 nr, .int .i64 hd, .int .i64 hr, (s1 1 od.length), (s1 2 rd.length), .int .i64 fl, .int .u32 nx, .int .i64 tg, .int .i64 br, .int .u32 tk, .int .i64 ct, .int .i64 (c.length : Int)], 29, false⟩, some ⟨(slq q q.pc (.slice (some ⟨3, 0, none⟩) d.length ka) (.slice (some ⟨4, 0, none⟩) r.length kb) q.fl q.cnt), 34, false⟩, (inCo rg0_ false), (inCo sl0_ false), some ⟨[Value.slice (some ⟨7, 0, none⟩) c.length c.length, .slice (some ⟨8, 0, none⟩) c.length c.length, .int .i64 0], 38, false⟩, some ⟨(tab ivC (ofL c od rd fl tg)), 53, false⟩, (uCo (putL (evW c d r rg0_ sl0_ c.length) d nd.toNat od) false), (uCo (putL (evW c d r rg0_ sl0_ c.length) r nr.toNat rd) false)] ⟨cvs 0 hn9, cvs 1 hn9, cvs 2 hn9, cvs 3 hn9, cvs 4 hn9, cvo, cvo, cvs 5 hn9, cvs 6 hn9, cvo, cvo, uC_c 7, uC_c 8, ⟨⟩⟩ ?_
    refine sd_run 12 (sdC 91 22 #[(pgV (s5 0 c.length) nd nr hd hr (s1 1 od.length) (s1 2 rd.length) fl nx tg br tk ct (c.length : Int)), (stq q q.pc (.slice (some ⟨3, 0, none⟩) d.length ka) (.slice (some ⟨4, 0, none⟩) r.length kb) q.fl q.cnt)] (@ev19_ok c od rd nd nr hd hr fl nx tg br tk ct q d dj r rj ro ka kb hR hcl hol hrl hi hd32 hr32 hfq hf hm) i5_ ⟨iiC_b, inC_b, inC_b, uC_b, uC_b, ⟨⟩⟩ ?_)
    rintro hn9 v9 k9 ⟨fl13_, pc13_, dj93_, rj93_, q4_0, q4_1, rfl, rfl⟩
    refine mkG (.tuple #[(stq q pc13_ (s1 14 ((putL (evV c d r c.length) d nd.toNat od).length)) (s1 15 ((putL (evV c d r c.length) r nr.toNat rd).length)) fl13_ (IntKind.u64.wrap (q.cnt + ct))), .bool true]) [(iiCo c false), (inCo od false), (inCo rd false), (uCo (d ++ dj) ro), (uCo (r ++ rj) ro), some ⟨[(s5 0 c.length), .int .i64 nd, .int .i64 nr, .int .i64 hd, .int .i64 hr, (s1 1 od.length), (s1 2 rd.length), .int .i64 fl, .int .u32 nx, .int .i64 tg, .int .i64 br, .int .u32 tk, .int .i64 ct, .int .i64 (c.length : Int)], 29, false⟩, some ⟨(slq q q.pc (.slice (some ⟨3, 0, none⟩) d.length ka) (.slice (some ⟨4, 0, none⟩) r.length kb) q.fl q.cnt), 34, false⟩, (inCo rg0_ false), (inCo sl0_ false), some ⟨[Value.slice (some ⟨7, 0, none⟩) c.length c.length, .slice (some ⟨8, 0, none⟩) c.length c.length, .int .i64 0], 38, false⟩, some ⟨(tab ivC (ofL c od rd fl tg)), 53, false⟩, (uCo (putL (evW c d r rg0_ sl0_ c.length) d nd.toNat od) false), (uCo (putL (evW c d r rg0_ sl0_ c.length) r nr.toNat rd) false), some ⟨(slq q pc12_ (s1 11 ((putL (evW c d r rg0_ sl0_ c.length) d nd.toNat od).length)) (s1 12 ((putL (evW c d r rg0_ sl0_ c.length) r nr.toNat rd).length)) fl12_ (IntKind.u64.wrap (q.cnt + ct))), 34, false⟩, (uCo ((putL (evV c d r c.length) d nd.toNat od) ++ dj93_) false), (uCo ((putL (evV c d r c.length) r nr.toNat rd) ++ rj93_) false)] ⟨cvs 0 hn9, cvs 1 hn9, cvs 2 hn9, cvs 3 hn9, cvs 4 hn9, cvo, cvo, cvo, cvo, cvo, cvo, cvo, cvo, cvo, uC_c 5, uC_c 6, ⟨⟩⟩ ?_
    refine sd_run 9 ?_
    have hpa := hpn9.all
    have hfe : fl12_ = fl13_ := q3_0.trans ((ew_fl hR hpa q.fl).trans q4_0.symm)
    subst hfe
    have hpe : pc12_ = pc13_ := q3_1.trans ((ew_pc hR hpa nx tk fl12_).trans q4_1.symm)
    subst hpe
    have hD9 := putL_le (evV c d r c.length) d nd.toNat od
    have hR9 := putL_le (evV c d r c.length) r nr.toNat rd
    refine sd_re (⟨tmL [(9, .pointer (some ⟨13, 0, none⟩)), (10, .bool true), (11, .pointer (some ⟨16, 0, none⟩)), (12, .bool true)], hq [(iiCo c false), (inCo od false), (inCo rd false), (uCo (d ++ dj) ro), (uCo (r ++ rj) ro), none, none, none, none, none, none, (uCo (putL (evW c d r rg0_ sl0_ c.length) d nd.toNat od) false), (uCo (putL (evW c d r rg0_ sl0_ c.length) r nr.toNat rd) false), some ⟨(slq q pc12_ (s1 11 ((putL (evW c d r rg0_ sl0_ c.length) d nd.toNat od).length)) (s1 12 ((putL (evW c d r rg0_ sl0_ c.length) r nr.toNat rd).length)) fl12_ (IntKind.u64.wrap (q.cnt + ct))), 34, false⟩, (uCo ((putL (evV c d r c.length) d nd.toNat od) ++ dj93_) false), (uCo ((putL (evV c d r c.length) r nr.toNat rd) ++ rj93_) false), some ⟨(slq q pc12_ (s1 14 ((putL (evV c d r c.length) d nd.toNat od).length)) (s1 15 ((putL (evV c d r c.length) r nr.toNat rd).length)) fl12_ (IntKind.u64.wrap (q.cnt + ct))), 34, false⟩]⟩) (emOf [some 0, some 1, some 2, some 3, some 4, none, none, none, none, none, none, some 11, some 12, some 13, some 14, some 15, some 16]) hX ⟨sub_of kr kr ⟨iiC_b, inC_b, inC_b, uC_b, uC_b, uC_b, uC_b, brn, uC_b, uC_b, brn, ⟨⟩⟩, te_of kr kr⟩ kr ?_
    rw [(ew_put hR hpa d nd.toNat).1, (ew_put hR hpa r nr.toNat).2]
    refine sd_run 7 (sdCp 100 17 #[(stq q pc12_ (s1 11 ((putL (evV c d r c.length) d nd.toNat od).length)) (s1 12 ((putL (evV c d r c.length) r nr.toNat rd).length)) fl12_ (IntKind.u64.wrap (q.cnt + ct))), (stq q pc12_ (s1 14 ((putL (evV c d r c.length) d nd.toNat od).length)) (s1 15 ((putL (evV c d r c.length) r nr.toNat rd).length)) fl12_ (IntKind.u64.wrap (q.cnt + ct)))] (@keep_t (⟨pc12_, fl12_, q.root, q.vec, q.epc, q.cause, q.addr, (IntKind.u64.wrap (q.cnt + ct)), q.su, q.pg, q.ie, q.es, q.ei, q.ha⟩ : Sx) (putL (evV c d r c.length) d nd.toNat od) [] dj93_ (putL (evV c d r c.length) r nr.toNat rd) [] rj93_ false false (unk + 1) (unk + 1) (unk + 1) (unk + 1) (by omega) (by omega)) [some 11, some 12, some 14, some 15] ⟨bk_flat (tab uC (putL (evV c d r c.length) d nd.toNat od)) kr (tab_plain uC_pl _) (congrArg (tab uC) (List.append_nil _).symm), bk_flat (tab uC (putL (evV c d r c.length) r nr.toNat rd)) kr (tab_plain uC_pl _) (congrArg (tab uC) (List.append_nil _).symm), uC_b, uC_b, ⟨⟩⟩ ?_)
    rintro v9 k9 ⟨rfl, rfl⟩
    refine ⟨rfl, .bool true, kr, ?_⟩
    refine sd_run 5 ?_
    refine sdY (.bool true) hX [(iiCo c false), (inCo od false), (inCo rd false), (uCo (d ++ dj) ro), (uCo (r ++ rj) ro)] i5_ ⟨iiC_b, inC_b, inC_b, uC_b, uC_b, ⟨⟩⟩ ⟨rfl, rfl⟩
  ·skip
   refine sd_run 5 (sdC 85 14 #[(pgV (s5 0 c.length) nd nr hd hr (s1 1 od.length) (s1 2 rd.length) fl nx tg br tk ct (c.length : Int)), .agg #[.slice (some ⟨7, 0, none⟩) c.length c.length, .slice (some ⟨8, 0, none⟩) c.length c.length, .int .i64 0], .int .i64 (k : Int), (stq q q.pc (.slice (some ⟨3, 0, none⟩) d.length ka) (.slice (some ⟨4, 0, none⟩) r.length kb) q.fl q.cnt)] (@pl_no c od rd nd nr hd hr fl nx tg br tk ct q d dj r rj ro rg0_ sl0_ 0 k c.length c.length ka kb hR hcl hol hrl hi hrg9 hsl9 (by omega) hk (by omega) (by omega) hpn9.right hf) [some 0, some 1, some 2, some 3, some 4, some 7, some 8] ⟨iiC_b, inC_b, inC_b, uC_b, uC_b, inC_b, inC_b, ⟨⟩⟩ ?_)
   rintro hn9 v9 k9 ⟨rfl, rfl⟩
   refine mkG (.tuple #[(stq q q.pc (s1 11 d.length) (s1 12 r.length) q.fl q.cnt), .bool false]) [(iiCo c false), (inCo od false), (inCo rd false), (uCo (d ++ dj) ro), (uCo (r ++ rj) ro), some ⟨[(s5 0 c.length), .int .i64 nd, .int .i64 nr, .int .i64 hd, .int .i64 hr, (s1 1 od.length), (s1 2 rd.length), .int .i64 fl, .int .u32 nx, .int .i64 tg, .int .i64 br, .int .u32 tk, .int .i64 ct, .int .i64 (c.length : Int)], 29, false⟩, some ⟨(slq q q.pc (.slice (some ⟨3, 0, none⟩) d.length ka) (.slice (some ⟨4, 0, none⟩) r.length kb) q.fl q.cnt), 34, false⟩, (inCo rg0_ false), (inCo sl0_ false), some ⟨[Value.slice (some ⟨7, 0, none⟩) c.length c.length, .slice (some ⟨8, 0, none⟩) c.length c.length, .int .i64 0], 38, false⟩, some ⟨(tab ivC (ofL c od rd fl tg)), 53, false⟩, (uCo d false), (uCo r false)] ⟨cvs 0 hn9, cvs 1 hn9, cvs 2 hn9, cvs 3 hn9, cvs 4 hn9, cvo, cvo, cvs 5 hn9, cvs 6 hn9, cvo, cvo, uC_c 7, uC_c 8, ⟨⟩⟩ ?_
   refine sd_run 12 (sdCp 91 22 #[(pgV (s5 0 c.length) nd nr hd hr (s1 1 od.length) (s1 2 rd.length) fl nx tg br tk ct (c.length : Int)), (stq q q.pc (.slice (some ⟨3, 0, none⟩) d.length ka) (.slice (some ⟨4, 0, none⟩) r.length kb) q.fl q.cnt)] (@ev19_no c od rd nd nr hd hr fl nx tg br tk ct q d dj r rj ro ka kb hR hcl hol hrl hi hf) i5_ ⟨iiC_b, inC_b, inC_b, uC_b, uC_b, ⟨⟩⟩ ?_)
   rintro v9 k9 ⟨rfl, rfl⟩
   refine ⟨rfl, .tuple #[(stq q q.pc (.slice (some ⟨3, 0, none⟩) d.length ka) (.slice (some ⟨4, 0, none⟩) r.length kb) q.fl q.cnt), .bool false], kr, ?_⟩
   refine sd_run 9 (sd_run 7 (sdCp 100 17 #[(stq q q.pc (s1 11 d.length) (s1 12 r.length) q.fl q.cnt), (stq q q.pc (.slice (some ⟨3, 0, none⟩) d.length ka) (.slice (some ⟨4, 0, none⟩) r.length kb) q.fl q.cnt)] (@keep_t q d [] dj r [] rj false ro (unk + 1) (unk + 1) ka kb (by omega) (by omega)) [some 11, some 12, some 3, some 4] ⟨bk_flat (tab uC d) kr (tab_plain uC_pl _) (congrArg (tab uC) (List.append_nil _).symm), bk_flat (tab uC r) kr (tab_plain uC_pl _) (congrArg (tab uC) (List.append_nil _).symm), uC_b, uC_b, ⟨⟩⟩ ?_))
   rintro v9 k9 ⟨rfl, rfl⟩
   refine ⟨rfl, .bool true, kr, ?_⟩
   refine sd_run 5 ?_
   refine sdY (.bool true) hX [(iiCo c false), (inCo od false), (inCo rd false), (uCo (d ++ dj) ro), (uCo (r ++ rj) ro)] i5_ ⟨iiC_b, inC_b, inC_b, uC_b, uC_b, ⟨⟩⟩ ⟨rfl, rfl⟩
 ·skip
  refine sd_run 2 (sdF 74 ((pv1_ : Int) ≤ (k : Int)) (by omega) kr (sd_run 11 ?_))
  rcases Bool.eq_false_or_eq_true (fitsB nd nr hd hr d r q.fl) with hf | hf
  ·skip
   by_cases hm : ((d.length : Int) - nd + (od.length : Int) > 16 ∨ (r.length : Int) - nr + (rd.length : Int) > 16)
   ·skip
    refine sd_run 5 (sdC 85 14 #[(pgV (s5 0 c.length) nd nr hd hr (s1 1 od.length) (s1 2 rd.length) fl nx tg br tk ct (c.length : Int)), .agg #[.slice (some ⟨7, 0, none⟩) c.length c.length, .slice (some ⟨8, 0, none⟩) c.length c.length, .int .i64 slots0_], .int .i64 (k : Int), (stq q q.pc (.slice (some ⟨3, 0, none⟩) d.length ka) (.slice (some ⟨4, 0, none⟩) r.length kb) q.fl q.cnt)] (@pl_many c od rd nd nr hd hr fl nx tg br tk ct q d dj r rj ro rg0_ sl0_ slots0_ k c.length c.length ka kb hR hcl hol hrl hi hrg9 hsl9 (by omega) hk hd32 hr32 hfq hpn9.right hf hm) [some 0, some 1, some 2, some 3, some 4, some 7, some 8] ⟨iiC_b, inC_b, inC_b, uC_b, uC_b, inC_b, inC_b, ⟨⟩⟩ ?_)
    rintro hn9 v9 k9 ⟨rfl, rfl⟩
    refine mkG (.tuple #[(stq q q.pc (s1 11 d.length) (s1 12 r.length) q.fl q.cnt), .bool false]) [(iiCo c false), (inCo od false), (inCo rd false), (uCo (d ++ dj) ro), (uCo (r ++ rj) ro), some ⟨[(s5 0 c.length), .int .i64 nd, .int .i64 nr, .int .i64 hd, .int .i64 hr, (s1 1 od.length), (s1 2 rd.length), .int .i64 fl, .int .u32 nx, .int .i64 tg, .int .i64 br, .int .u32 tk, .int .i64 ct, .int .i64 (c.length : Int)], 29, false⟩, some ⟨(slq q q.pc (.slice (some ⟨3, 0, none⟩) d.length ka) (.slice (some ⟨4, 0, none⟩) r.length kb) q.fl q.cnt), 34, false⟩, (inCo rg0_ false), (inCo sl0_ false), some ⟨[Value.slice (some ⟨7, 0, none⟩) c.length c.length, .slice (some ⟨8, 0, none⟩) c.length c.length, .int .i64 slots0_], 38, false⟩, some ⟨(tab ivC (ofL c od rd fl tg)), 53, false⟩, (uCo d false), (uCo r false)] ⟨cvs 0 hn9, cvs 1 hn9, cvs 2 hn9, cvs 3 hn9, cvs 4 hn9, cvo, cvo, cvs 5 hn9, cvs 6 hn9, cvo, cvo, uC_c 7, uC_c 8, ⟨⟩⟩ ?_
    refine sd_run 12 (sdCp 91 22 #[(pgV (s5 0 c.length) nd nr hd hr (s1 1 od.length) (s1 2 rd.length) fl nx tg br tk ct (c.length : Int)), (stq q q.pc (.slice (some ⟨3, 0, none⟩) d.length ka) (.slice (some ⟨4, 0, none⟩) r.length kb) q.fl q.cnt)] (@ev19_many c od rd nd nr hd hr fl nx tg br tk ct q d dj r rj ro ka kb hR hcl hol hrl hi hd32 hr32 hfq hf hm) i5_ ⟨iiC_b, inC_b, inC_b, uC_b, uC_b, ⟨⟩⟩ ?_)
    rintro v9 k9 ⟨rfl, rfl⟩
    refine ⟨rfl, .tuple #[(stq q q.pc (.slice (some ⟨3, 0, none⟩) d.length ka) (.slice (some ⟨4, 0, none⟩) r.length kb) q.fl q.cnt), .bool false], kr, ?_⟩
    refine sd_run 9 (sd_run 7 (sdCp 100 17 #[(stq q q.pc (s1 11 d.length) (s1 12 r.length) q.fl q.cnt), (stq q q.pc (.slice (some ⟨3, 0, none⟩) d.length ka) (.slice (some ⟨4, 0, none⟩) r.length kb) q.fl q.cnt)] (@keep_t q d [] dj r [] rj false ro (unk + 1) (unk + 1) ka kb (by omega) (by omega)) [some 11, some 12, some 3, some 4] ⟨bk_flat (tab uC d) kr (tab_plain uC_pl _) (congrArg (tab uC) (List.append_nil _).symm), bk_flat (tab uC r) kr (tab_plain uC_pl _) (congrArg (tab uC) (List.append_nil _).symm), uC_b, uC_b, ⟨⟩⟩ ?_))
    rintro v9 k9 ⟨rfl, rfl⟩
    refine ⟨rfl, .bool true, kr, ?_⟩
    refine sd_run 5 ?_
    refine sdY (.bool true) hX [(iiCo c false), (inCo od false), (inCo rd false), (uCo (d ++ dj) ro), (uCo (r ++ rj) ro)] i5_ ⟨iiC_b, inC_b, inC_b, uC_b, uC_b, ⟨⟩⟩ ⟨rfl, rfl⟩
   ·skip
    refine sd_run 5 (sdC 85 14 #[(pgV (s5 0 c.length) nd nr hd hr (s1 1 od.length) (s1 2 rd.length) fl nx tg br tk ct (c.length : Int)), .agg #[.slice (some ⟨7, 0, none⟩) c.length c.length, .slice (some ⟨8, 0, none⟩) c.length c.length, .int .i64 slots0_], .int .i64 (k : Int), (stq q q.pc (.slice (some ⟨3, 0, none⟩) d.length ka) (.slice (some ⟨4, 0, none⟩) r.length kb) q.fl q.cnt)] (@pl_ok c od rd nd nr hd hr fl nx tg br tk ct q d dj r rj ro rg0_ sl0_ slots0_ k c.length c.length ka kb hR hcl hol hrl hi hrg9 hsl9 (by omega) hk hd32 hr32 hfq hpn9.right hf hm hka hkb) [some 0, some 1, some 2, some 3, some 4, some 7, some 8] ⟨iiC_b, inC_b, inC_b, uC_b, uC_b, inC_b, inC_b, ⟨⟩⟩ ?_)
    rintro hn9 v9 k9 ⟨fl14_, pc14_, q5_0, q5_1, rfl, rfl⟩
    refine mkG (.tuple #[(stq q pc14_ (s1 11 ((putL (evW c d r rg0_ sl0_ c.length) d nd.toNat od).length)) (s1 12 ((putL (evW c d r rg0_ sl0_ c.length) r nr.toNat rd).length)) fl14_ (IntKind.u64.wrap (q.cnt + ct))), .bool true]) [(iiCo c false), (inCo od false), (inCo rd false), (uCo (d ++ dj) ro), (uCo (r ++ rj) ro), some ⟨[(s5 0 c.length), .int .i64 nd, .int .i64 nr, .int .i64 hd, .int .i64 hr, (s1 1 od.length), (s1 2 rd.length), .int .i64 fl, .int .u32 nx, .int .i64 tg, .int .i64 br, .int .u32 tk, .int .i64 ct, .int .i64 (c.length : Int)], 29, false⟩, some ⟨(slq q q.pc (.slice (some ⟨3, 0, none⟩) d.length ka) (.slice (some ⟨4, 0, none⟩) r.length kb) q.fl q.cnt), 34, false⟩, (inCo rg0_ false), (inCo sl0_ false), some ⟨[Value.slice (some ⟨7, 0, none⟩) c.length c.length, .slice (some ⟨8, 0, none⟩) c.length c.length, .int .i64 slots0_], 38, false⟩, some ⟨(tab ivC (ofL c od rd fl tg)), 53, false⟩, (uCo (putL (evW c d r rg0_ sl0_ c.length) d nd.toNat od) false), (uCo (putL (evW c d r rg0_ sl0_ c.length) r nr.toNat rd) false)] ⟨cvs 0 hn9, cvs 1 hn9, cvs 2 hn9, cvs 3 hn9, cvs 4 hn9, cvo, cvo, cvs 5 hn9, cvs 6 hn9, cvo, cvo, uC_c 7, uC_c 8, ⟨⟩⟩ ?_
    refine sd_run 12 (sdC 91 22 #[(pgV (s5 0 c.length) nd nr hd hr (s1 1 od.length) (s1 2 rd.length) fl nx tg br tk ct (c.length : Int)), (stq q q.pc (.slice (some ⟨3, 0, none⟩) d.length ka) (.slice (some ⟨4, 0, none⟩) r.length kb) q.fl q.cnt)] (@ev19_ok c od rd nd nr hd hr fl nx tg br tk ct q d dj r rj ro ka kb hR hcl hol hrl hi hd32 hr32 hfq hf hm) i5_ ⟨iiC_b, inC_b, inC_b, uC_b, uC_b, ⟨⟩⟩ ?_)
    rintro hn9 v9 k9 ⟨fl15_, pc15_, dj95_, rj95_, q6_0, q6_1, rfl, rfl⟩
    refine mkG (.tuple #[(stq q pc15_ (s1 14 ((putL (evV c d r c.length) d nd.toNat od).length)) (s1 15 ((putL (evV c d r c.length) r nr.toNat rd).length)) fl15_ (IntKind.u64.wrap (q.cnt + ct))), .bool true]) [(iiCo c false), (inCo od false), (inCo rd false), (uCo (d ++ dj) ro), (uCo (r ++ rj) ro), some ⟨[(s5 0 c.length), .int .i64 nd, .int .i64 nr, .int .i64 hd, .int .i64 hr, (s1 1 od.length), (s1 2 rd.length), .int .i64 fl, .int .u32 nx, .int .i64 tg, .int .i64 br, .int .u32 tk, .int .i64 ct, .int .i64 (c.length : Int)], 29, false⟩, some ⟨(slq q q.pc (.slice (some ⟨3, 0, none⟩) d.length ka) (.slice (some ⟨4, 0, none⟩) r.length kb) q.fl q.cnt), 34, false⟩, (inCo rg0_ false), (inCo sl0_ false), some ⟨[Value.slice (some ⟨7, 0, none⟩) c.length c.length, .slice (some ⟨8, 0, none⟩) c.length c.length, .int .i64 slots0_], 38, false⟩, some ⟨(tab ivC (ofL c od rd fl tg)), 53, false⟩, (uCo (putL (evW c d r rg0_ sl0_ c.length) d nd.toNat od) false), (uCo (putL (evW c d r rg0_ sl0_ c.length) r nr.toNat rd) false), some ⟨(slq q pc14_ (s1 11 ((putL (evW c d r rg0_ sl0_ c.length) d nd.toNat od).length)) (s1 12 ((putL (evW c d r rg0_ sl0_ c.length) r nr.toNat rd).length)) fl14_ (IntKind.u64.wrap (q.cnt + ct))), 34, false⟩, (uCo ((putL (evV c d r c.length) d nd.toNat od) ++ dj95_) false), (uCo ((putL (evV c d r c.length) r nr.toNat rd) ++ rj95_) false)] ⟨cvs 0 hn9, cvs 1 hn9, cvs 2 hn9, cvs 3 hn9, cvs 4 hn9, cvo, cvo, cvo, cvo, cvo, cvo, cvo, cvo, cvo, uC_c 5, uC_c 6, ⟨⟩⟩ ?_
    refine sd_run 9 ?_
    have hpa := hpn9.all
    have hfe : fl14_ = fl15_ := q5_0.trans ((ew_fl hR hpa q.fl).trans q6_0.symm)
    subst hfe
    have hpe : pc14_ = pc15_ := q5_1.trans ((ew_pc hR hpa nx tk fl14_).trans q6_1.symm)
    subst hpe
    have hD9 := putL_le (evV c d r c.length) d nd.toNat od
    have hR9 := putL_le (evV c d r c.length) r nr.toNat rd
    refine sd_re (⟨tmL [(9, .pointer (some ⟨13, 0, none⟩)), (10, .bool true), (11, .pointer (some ⟨16, 0, none⟩)), (12, .bool true)], hq [(iiCo c false), (inCo od false), (inCo rd false), (uCo (d ++ dj) ro), (uCo (r ++ rj) ro), none, none, none, none, none, none, (uCo (putL (evW c d r rg0_ sl0_ c.length) d nd.toNat od) false), (uCo (putL (evW c d r rg0_ sl0_ c.length) r nr.toNat rd) false), some ⟨(slq q pc14_ (s1 11 ((putL (evW c d r rg0_ sl0_ c.length) d nd.toNat od).length)) (s1 12 ((putL (evW c d r rg0_ sl0_ c.length) r nr.toNat rd).length)) fl14_ (IntKind.u64.wrap (q.cnt + ct))), 34, false⟩, (uCo ((putL (evV c d r c.length) d nd.toNat od) ++ dj95_) false), (uCo ((putL (evV c d r c.length) r nr.toNat rd) ++ rj95_) false), some ⟨(slq q pc14_ (s1 14 ((putL (evV c d r c.length) d nd.toNat od).length)) (s1 15 ((putL (evV c d r c.length) r nr.toNat rd).length)) fl14_ (IntKind.u64.wrap (q.cnt + ct))), 34, false⟩]⟩) (emOf [some 0, some 1, some 2, some 3, some 4, none, none, none, none, none, none, some 11, some 12, some 13, some 14, some 15, some 16]) hX ⟨sub_of kr kr ⟨iiC_b, inC_b, inC_b, uC_b, uC_b, uC_b, uC_b, brn, uC_b, uC_b, brn, ⟨⟩⟩, te_of kr kr⟩ kr ?_
    rw [(ew_put hR hpa d nd.toNat).1, (ew_put hR hpa r nr.toNat).2]
    refine sd_run 7 (sdCp 100 17 #[(stq q pc14_ (s1 11 ((putL (evV c d r c.length) d nd.toNat od).length)) (s1 12 ((putL (evV c d r c.length) r nr.toNat rd).length)) fl14_ (IntKind.u64.wrap (q.cnt + ct))), (stq q pc14_ (s1 14 ((putL (evV c d r c.length) d nd.toNat od).length)) (s1 15 ((putL (evV c d r c.length) r nr.toNat rd).length)) fl14_ (IntKind.u64.wrap (q.cnt + ct)))] (@keep_t (⟨pc14_, fl14_, q.root, q.vec, q.epc, q.cause, q.addr, (IntKind.u64.wrap (q.cnt + ct)), q.su, q.pg, q.ie, q.es, q.ei, q.ha⟩ : Sx) (putL (evV c d r c.length) d nd.toNat od) [] dj95_ (putL (evV c d r c.length) r nr.toNat rd) [] rj95_ false false (unk + 1) (unk + 1) (unk + 1) (unk + 1) (by omega) (by omega)) [some 11, some 12, some 14, some 15] ⟨bk_flat (tab uC (putL (evV c d r c.length) d nd.toNat od)) kr (tab_plain uC_pl _) (congrArg (tab uC) (List.append_nil _).symm), bk_flat (tab uC (putL (evV c d r c.length) r nr.toNat rd)) kr (tab_plain uC_pl _) (congrArg (tab uC) (List.append_nil _).symm), uC_b, uC_b, ⟨⟩⟩ ?_)
    rintro v9 k9 ⟨rfl, rfl⟩
    refine ⟨rfl, .bool true, kr, ?_⟩
    refine sd_run 5 ?_
    refine sdY (.bool true) hX [(iiCo c false), (inCo od false), (inCo rd false), (uCo (d ++ dj) ro), (uCo (r ++ rj) ro)] i5_ ⟨iiC_b, inC_b, inC_b, uC_b, uC_b, ⟨⟩⟩ ⟨rfl, rfl⟩
  ·skip
   refine sd_run 5 (sdC 85 14 #[(pgV (s5 0 c.length) nd nr hd hr (s1 1 od.length) (s1 2 rd.length) fl nx tg br tk ct (c.length : Int)), .agg #[.slice (some ⟨7, 0, none⟩) c.length c.length, .slice (some ⟨8, 0, none⟩) c.length c.length, .int .i64 slots0_], .int .i64 (k : Int), (stq q q.pc (.slice (some ⟨3, 0, none⟩) d.length ka) (.slice (some ⟨4, 0, none⟩) r.length kb) q.fl q.cnt)] (@pl_no c od rd nd nr hd hr fl nx tg br tk ct q d dj r rj ro rg0_ sl0_ slots0_ k c.length c.length ka kb hR hcl hol hrl hi hrg9 hsl9 (by omega) hk (by omega) (by omega) hpn9.right hf) [some 0, some 1, some 2, some 3, some 4, some 7, some 8] ⟨iiC_b, inC_b, inC_b, uC_b, uC_b, inC_b, inC_b, ⟨⟩⟩ ?_)
   rintro hn9 v9 k9 ⟨rfl, rfl⟩
   refine mkG (.tuple #[(stq q q.pc (s1 11 d.length) (s1 12 r.length) q.fl q.cnt), .bool false]) [(iiCo c false), (inCo od false), (inCo rd false), (uCo (d ++ dj) ro), (uCo (r ++ rj) ro), some ⟨[(s5 0 c.length), .int .i64 nd, .int .i64 nr, .int .i64 hd, .int .i64 hr, (s1 1 od.length), (s1 2 rd.length), .int .i64 fl, .int .u32 nx, .int .i64 tg, .int .i64 br, .int .u32 tk, .int .i64 ct, .int .i64 (c.length : Int)], 29, false⟩, some ⟨(slq q q.pc (.slice (some ⟨3, 0, none⟩) d.length ka) (.slice (some ⟨4, 0, none⟩) r.length kb) q.fl q.cnt), 34, false⟩, (inCo rg0_ false), (inCo sl0_ false), some ⟨[Value.slice (some ⟨7, 0, none⟩) c.length c.length, .slice (some ⟨8, 0, none⟩) c.length c.length, .int .i64 slots0_], 38, false⟩, some ⟨(tab ivC (ofL c od rd fl tg)), 53, false⟩, (uCo d false), (uCo r false)] ⟨cvs 0 hn9, cvs 1 hn9, cvs 2 hn9, cvs 3 hn9, cvs 4 hn9, cvo, cvo, cvs 5 hn9, cvs 6 hn9, cvo, cvo, uC_c 7, uC_c 8, ⟨⟩⟩ ?_
   refine sd_run 12 (sdCp 91 22 #[(pgV (s5 0 c.length) nd nr hd hr (s1 1 od.length) (s1 2 rd.length) fl nx tg br tk ct (c.length : Int)), (stq q q.pc (.slice (some ⟨3, 0, none⟩) d.length ka) (.slice (some ⟨4, 0, none⟩) r.length kb) q.fl q.cnt)] (@ev19_no c od rd nd nr hd hr fl nx tg br tk ct q d dj r rj ro ka kb hR hcl hol hrl hi hf) i5_ ⟨iiC_b, inC_b, inC_b, uC_b, uC_b, ⟨⟩⟩ ?_)
   rintro v9 k9 ⟨rfl, rfl⟩
   refine ⟨rfl, .tuple #[(stq q q.pc (.slice (some ⟨3, 0, none⟩) d.length ka) (.slice (some ⟨4, 0, none⟩) r.length kb) q.fl q.cnt), .bool false], kr, ?_⟩
   refine sd_run 9 (sd_run 7 (sdCp 100 17 #[(stq q q.pc (s1 11 d.length) (s1 12 r.length) q.fl q.cnt), (stq q q.pc (.slice (some ⟨3, 0, none⟩) d.length ka) (.slice (some ⟨4, 0, none⟩) r.length kb) q.fl q.cnt)] (@keep_t q d [] dj r [] rj false ro (unk + 1) (unk + 1) ka kb (by omega) (by omega)) [some 11, some 12, some 3, some 4] ⟨bk_flat (tab uC d) kr (tab_plain uC_pl _) (congrArg (tab uC) (List.append_nil _).symm), bk_flat (tab uC r) kr (tab_plain uC_pl _) (congrArg (tab uC) (List.append_nil _).symm), uC_b, uC_b, ⟨⟩⟩ ?_))
   rintro v9 k9 ⟨rfl, rfl⟩
   refine ⟨rfl, .bool true, kr, ?_⟩
   refine sd_run 5 ?_
   refine sdY (.bool true) hX [(iiCo c false), (inCo od false), (inCo rd false), (uCo (d ++ dj) ro), (uCo (r ++ rj) ro)] i5_ ⟨iiC_b, inC_b, inC_b, uC_b, uC_b, ⟨⟩⟩ ⟨rfl, rfl⟩
theorem plans_no {c : List II} {od rd : List Int} {nd nr hd hr fl nx tg br tk ct : Int} {q : Sx} {d dj r rj : List Int} {ro : Bool} {ka kb : Nat} {k : Int} (hR : RightP c od rd nd nr hd hr fl tg br ct (c.length : Int)) (hcl : c.length < 100000) (hol : od.length < 100000) (hrl : rd.length < 100000) (hi : ∀ x ∈ c, 0 ≤ x.2.2.2.2 ∧ x.2.2.2.2 < 4294967296) (hk : k < 1 ∨ 16 < k) : SCall Try.prog T16 7 #[(pgV (s5 0 c.length) nd nr hd hr (s1 1 od.length) (s1 2 rd.length) fl nx tg br tk ct (c.length : Int)), .int .i64 k, (stq q q.pc (.slice (some ⟨3, 0, none⟩) d.length ka) (.slice (some ⟨4, 0, none⟩) r.length kb) q.fl q.cnt)] (hq [(iiCo c false), (inCo od false), (inCo rd false), (uCo (d ++ dj) ro), (uCo (r ++ rj) ro)]) fun v h => v = .bool true ∧ h = hq [(iiCo c false), (inCo od false), (inCo rd false), (uCo (d ++ dj) ro), (uCo (r ++ rj) ro)] := by
 have hk9 := hk
 rcases hk9 with hk9 | hk9
 ·skip
  refine scall_sd 102 _ 5 kr f7_fn f7_body rfl rfl rfl fun X hX => ?_
  refine sd_run 11 (sdCp 16 11 #[(pgV (s5 0 c.length) nd nr hd hr (s1 1 od.length) (s1 2 rd.length) fl nx tg br tk ct (c.length : Int)), .int .i64 k] (@dono_s c od rd nd nr hd hr fl nx tg br tk ct k hR hcl hol hrl hi hk) i3_ ⟨iiC_b, inC_b, inC_b, ⟨⟩⟩ ?_)
  rintro v9 k9 ⟨rfl, rfl⟩
  refine ⟨rfl, .tuple #[.agg #[.slice none 0 0, .slice none 0 0, .int .i64 0], .int .i64 1], kr, ?_⟩
  refine sd_run 12 (sdCp 20 20 #[(pgV (s5 0 c.length) nd nr hd hr (s1 1 od.length) (s1 2 rd.length) fl nx tg br tk ct (c.length : Int))] (@rright_s c od rd nd nr hd hr fl nx tg br tk ct hR hol hrl hi) i3_ ⟨iiC_b, inC_b, inC_b, ⟨⟩⟩ ?_)
  rintro v9 k9 ⟨rfl, rfl⟩
  refine ⟨rfl, .bool true, kr, ?_⟩
  refine sd_run 4 (sdT 24 ((k : Int) < 1) (by omega) kr (sd_run 34 ?_))
  refine sdY (.bool true) hX [(iiCo c false), (inCo od false), (inCo rd false), (uCo (d ++ dj) ro), (uCo (r ++ rj) ro)] i5_ ⟨iiC_b, inC_b, inC_b, uC_b, uC_b, ⟨⟩⟩ ⟨rfl, rfl⟩
 ·skip
  refine scall_sd 102 _ 5 kr f7_fn f7_body rfl rfl rfl fun X hX => ?_
  refine sd_run 11 (sdCp 16 11 #[(pgV (s5 0 c.length) nd nr hd hr (s1 1 od.length) (s1 2 rd.length) fl nx tg br tk ct (c.length : Int)), .int .i64 k] (@dono_s c od rd nd nr hd hr fl nx tg br tk ct k hR hcl hol hrl hi hk) i3_ ⟨iiC_b, inC_b, inC_b, ⟨⟩⟩ ?_)
  rintro v9 k9 ⟨rfl, rfl⟩
  refine ⟨rfl, .tuple #[.agg #[.slice none 0 0, .slice none 0 0, .int .i64 0], .int .i64 1], kr, ?_⟩
  refine sd_run 12 (sdCp 20 20 #[(pgV (s5 0 c.length) nd nr hd hr (s1 1 od.length) (s1 2 rd.length) fl nx tg br tk ct (c.length : Int))] (@rright_s c od rd nd nr hd hr fl nx tg br tk ct hR hol hrl hi) i3_ ⟨iiC_b, inC_b, inC_b, ⟨⟩⟩ ?_)
  rintro v9 k9 ⟨rfl, rfl⟩
  refine ⟨rfl, .bool true, kr, ?_⟩
  refine sd_run 4 (sdF 24 ((k : Int) < 1) (by omega) kr (sd_run 4 (sdT 28 ((k : Int) > 16) (by omega) kr (sd_run 30 ?_))))
  refine sdY (.bool true) hX [(iiCo c false), (inCo od false), (inCo rd false), (uCo (d ++ dj) ro), (uCo (r ++ rj) ro)] i5_ ⟨iiC_b, inC_b, inC_b, uC_b, uC_b, ⟨⟩⟩ ⟨rfl, rfl⟩
end Ls
end Go.Proofs.Ytegjicaoemhhlaa
