/- Chapter 19: IrTells walked. -/
import Derived.Test.YtgpphhdndmdlgaaDoorTg
import Derived.Test.YtgpphhdndmdlgaaDoorTc
import Derived.Test.YtgpphhdndmdlgaaDoorPq
namespace Go.Proofs.YtgpphhdndmdlgaaDoor
open Go Go.Ev Go.RowKit
set_option linter.unusedVariables false
set_option linter.unusedSimpArgs false
set_option maxRecDepth 100000
namespace Ls
noncomputable def f3b : Code := Tryd.f3.body.getD .skip
theorem f3_body : Tryd.f3.body = some f3b := by kernel_rfl
theorem f3_fn : T20.fn 3 = some Tryd.f3 := by kernel_rfl
set_option maxHeartbeats 8000000 in
theorem irtells_s {xo xa xb xi xd xr : List Int} {e6 e7 e8 e9 e10 e11 e12 e13 e14 e15 e17 : Int} {e16 : Bool} {q : Sx} {d r : List Int} (hx0 : ∀ x ∈ xo, i64B x = true) (hx1 : ∀ x ∈ xa, i64B x = true) (hx2 : ∀ x ∈ xb, i64B x = true) (hx3 : ∀ x ∈ xi, 0 ≤ x ∧ x < 4294967296) (hx4 : ∀ x ∈ xd, i64B x = true) (hx5 : ∀ x ∈ xr, i64B x = true) (he6 : i64B e6 = true) (he7 : i64B e7 = true) (he8 : i64B e8 = true) (he9 : i64B e9 = true) (he10 : i64B e10 = true) (he11 : i64B e11 = true) (he12 : i64B e12 = true) (he13 : i64B e13 = true) (hl0 : xo.length ≤ 9223372036854775807) (hl1 : xa.length ≤ 9223372036854775807) (hl2 : xb.length ≤ 9223372036854775807) (hl3 : xi.length ≤ 9223372036854775807) (hl4 : xd.length ≤ 9223372036854775807) (hl5 : xr.length ≤ 9223372036854775807) (he17 : i64B e17 = true) (hd32 : V32 d) (hr32 : V32 r) (hdb : d.length * 4 ≤ 140737488355328) (hrb : r.length * 4 ≤ 140737488355328) (hfl : 0 ≤ q.fl ∧ q.fl < 4294967296) (hcn : 0 ≤ q.cnt ∧ q.cnt < 18446744073709551616) : SCall Tryd.prog T20 3 #[.agg #[(s1 0 xo.length), (s1 1 xa.length), (s1 2 xb.length), (s1 3 xi.length), (s1 4 xd.length), (s1 5 xr.length), .int .i64 e6, .int .i64 e7, .int .i64 e8, .int .i64 e9, .int .i64 e10, .int .i64 e11, .int .i64 e12, .int .i64 e13, .int .u32 e14, .int .u32 e15, .bool e16, .int .i64 e17], (stq q q.pc (s1 6 d.length) (s1 7 r.length) q.fl q.cnt)] (hq [(inCo xo true), (inCo xa true), (inCo xb true), (uCo xi true), (inCo xd true), (inCo xr true), (uCo d true), (uCo r true)]) fun v h => v = .bool true ∧ h = hq [(inCo xo true), (inCo xa true), (inCo xb true), (uCo xi true), (inCo xd true), (inCo xr true), (uCo d true), (uCo r true)] := by
 refine scall_sd 37 _ 8 kr f3_fn f3_body rfl rfl rfl fun X hX => ?_
 refine sd_run 10 (sdC 8 4 #[.agg #[(s1 0 xo.length), (s1 1 xa.length), (s1 2 xb.length), (s1 3 xi.length), (s1 4 xd.length), (s1 5 xr.length), .int .i64 e6, .int .i64 e7, .int .i64 e8, .int .i64 e9, .int .i64 e10, .int .i64 e11, .int .i64 e12, .int .i64 e13, .int .u32 e14, .int .u32 e15, .bool e16, .int .i64 e17]] (@made_s xo xa xb xi xd xr e6 e7 e8 e9 e10 e11 e12 e13 e14 e15 e17 e16 hx0 hx1 hx2 hx3 hx4 hx5 he6 he7 he8 he9 he10 he11 he12 he13 hl0 hl1 hl2 hl3 hl4 hl5 he17) i6_ ⟨inC_b, inC_b, inC_b, uC_b, inC_b, inC_b, ⟨⟩⟩ ?_)
 rintro Y v9 k9 ⟨nd10_, nr10_, hd10_, hr10_, fl10_, nx10_, tg10_, br10_, tk10_, ct10_, vs10_, nC0_, C0_, OD0_, RD0_, q1_0, q1_1, q1_2, q1_3, q1_4, rfl, rfl⟩
 refine mkG (pgV (s5 10 nC0_) nd10_ nr10_ hd10_ hr10_ (s1 11 OD0_.length) (s1 12 RD0_.length) fl10_ nx10_ tg10_ br10_ tk10_ ct10_ vs10_) [(inCo xo true), (inCo xa true), (inCo xb true), (uCo xi true), (inCo xd true), (inCo xr true), (uCo d true), (uCo r true), some ⟨[(s1 0 xo.length), (s1 1 xa.length), (s1 2 xb.length), (s1 3 xi.length), (s1 4 xd.length), (s1 5 xr.length), .int .i64 e6, .int .i64 e7, .int .i64 e8, .int .i64 e9, .int .i64 e10, .int .i64 e11, .int .i64 e12, .int .i64 e13, .int .u32 e14, .int .u32 e15, .bool e16, .int .i64 e17], 26, false⟩, some ⟨(slq q q.pc (s1 6 d.length) (s1 7 r.length) q.fl q.cnt), 29, false⟩, (iiCo C0_ false), (inCo OD0_ false), (inCo RD0_ false)] ⟨cvs 0 Y, cvs 1 Y, cvs 2 Y, cvs 3 Y, cvs 4 Y, cvs 5 Y, cvo, cvo, cvo, cvo, iiC_c 6, inC_c 7, inC_c 8, ⟨⟩⟩ ?_
 refine sd_run 7 (sdC 10 5 #[(stq q q.pc (s1 6 d.length) (s1 7 r.length) q.fl q.cnt)] (@trim_s q d [] r [] true hdb hrb) [some 6, some 7] ⟨bk_flat (tab uC d) kr (tab_plain uC_pl _) (congrArg (tab uC) (List.append_nil _).symm), bk_flat (tab uC r) kr (tab_plain uC_pl _) (congrArg (tab uC) (List.append_nil _).symm), ⟨⟩⟩ ?_)
 rintro Y v9 k9 ⟨rfl, rfl⟩
 refine mkG (stq q q.pc (s1 14 ((d.take 16).length)) (s1 15 ((r.take 16).length)) (Int.tmod q.fl 16) (Int.tmod q.cnt 1099511627776)) [(inCo xo true), (inCo xa true), (inCo xb true), (uCo xi true), (inCo xd true), (inCo xr true), (uCo d true), (uCo r true), some ⟨[(s1 0 xo.length), (s1 1 xa.length), (s1 2 xb.length), (s1 3 xi.length), (s1 4 xd.length), (s1 5 xr.length), .int .i64 e6, .int .i64 e7, .int .i64 e8, .int .i64 e9, .int .i64 e10, .int .i64 e11, .int .i64 e12, .int .i64 e13, .int .u32 e14, .int .u32 e15, .bool e16, .int .i64 e17], 26, false⟩, some ⟨(slq q q.pc (s1 6 d.length) (s1 7 r.length) q.fl q.cnt), 29, false⟩, (iiCo C0_ false), (inCo OD0_ false), (inCo RD0_ false), some ⟨(pgL (s5 10 nC0_) nd10_ nr10_ hd10_ hr10_ (s1 11 OD0_.length) (s1 12 RD0_.length) fl10_ nx10_ tg10_ br10_ tk10_ ct10_ vs10_), 32, false⟩, (uCo (d.take 16 ++ d.drop 16) false), (uCo (r.take 16 ++ r.drop 16) false)] ⟨cvo, cvo, cvo, cvo, cvo, cvo, cvs 0 Y, cvs 1 Y, cvo, cvo, cvo, cvo, cvo, cvo, uC_c 2, uC_c 3, ⟨⟩⟩ ?_
 refine sd_run 6 ?_
 have hfl9 := tm16 hfl
 have hq9 : 0 ≤ Int.tmod q.fl 16 ∧ Int.tmod q.fl 16 < 4294967296 := ⟨hfl9.1, by have := hfl9.2; omega⟩
 subst q1_0
 by_cases hlt : 30 < d.length
 ·skip
  refine sd_run 5 (sdT 14 ((d.length : Int) > 30) (by omega) kr (sd_run 6 (sd_slh 17 23 24 1 6 0 d.length 30 .i64 kr kr kr kr kr (by first | omega | (simp; done) | (simp; omega)) (sd_see 17 (s1 6 ((d.take 30).length)) (see_len (n := 30) kr (by simp; omega)) (sd_run 5 (sd_drawP kr ?_))))))
  refine svp_go 2 ?_
  refine svp_line ?_
  refine sv_callp 21 6 #[(pgV (s5 10 C0_.length) nd10_ nr10_ hd10_ hr10_ (s1 11 OD0_.length) (s1 12 RD0_.length) fl10_ nx10_ tg10_ br10_ tk10_ ct10_ vs10_), (stq q q.pc (s1 14 ((d.take 16).length)) (s1 15 ((r.take 16).length)) (Int.tmod q.fl 16) (Int.tmod q.cnt 1099511627776))] (@same_s C0_ OD0_ RD0_ nd10_ nr10_ hd10_ hr10_ fl10_ nx10_ tg10_ br10_ tk10_ ct10_ vs10_ (⟨q.pc, (Int.tmod q.fl 16), q.root, q.vec, q.epc, q.cause, q.addr, (Int.tmod q.cnt 1099511627776), q.su, q.pg, q.ie, q.es, q.ei, q.ha⟩ : Sx) (d.take 16) (d.drop 16) (r.take 16) (r.drop 16) false (unk + 1) (unk + 1) (by first | omega | (simp; done) | (simp; omega)) (by first | omega | (simp; done) | (simp; omega)) (by first | omega | (simp; done) | (simp; omega)) (fun x hx => (q1_4 x hx).2.2.2.2) (by first | omega | (simp; done) | (simp; omega)) (by first | omega | (simp; done) | (simp; omega)) (hd32.take 16) (hr32.take 16) hq9 (.inl rfl) (.inl rfl)) [some 10, some 11, some 12, some 14, some 15] kr kr kr (hn_of 0 kr ⟨iiC_b, inC_b, inC_b, bk_flat (tab uC (d.take 16 ++ d.drop 16)) kr (tab_plain uC_pl _) (by rfl), bk_flat (tab uC (r.take 16 ++ r.drop 16)) kr (tab_plain uC_pl _) (by rfl), ⟨⟩⟩) kr kr ?_
  rintro v9 k9 ⟨rfl, rfl⟩
  refine ⟨rfl, .bool true, kr, ?_⟩
  refine sv_run 3 ?_
  refine sv_callp 25 6 #[(pgV (s5 10 C0_.length) nd10_ nr10_ hd10_ hr10_ (s1 11 OD0_.length) (s1 12 RD0_.length) fl10_ nx10_ tg10_ br10_ tk10_ ct10_ vs10_), (stq q q.pc (s1 6 ((d.take 30).length)) (s1 7 r.length) q.fl q.cnt)] (@same_s C0_ OD0_ RD0_ nd10_ nr10_ hd10_ hr10_ fl10_ nx10_ tg10_ br10_ tk10_ ct10_ vs10_ q (d.take 30) (d.drop 30) r [] true (unk + 1) (unk + 1) (by first | omega | (simp; done) | (simp; omega)) (by first | omega | (simp; done) | (simp; omega)) (by first | omega | (simp; done) | (simp; omega)) (fun x hx => (q1_4 x hx).2.2.2.2) (by first | omega | (simp; done) | (simp; omega)) (by first | omega | (simp; done) | (simp; omega)) (hd32.take 30) hr32 hfl (.inl rfl) (.inl rfl)) [some 10, some 11, some 12, some 6, some 7] kr kr kr (hn_of 0 kr ⟨iiC_b, inC_b, inC_b, bk_flat (tab uC d) kr (tab_plain uC_pl _) (congrArg (tab uC) (List.take_append_drop 30 d).symm), bk_flat (tab uC r) kr (tab_plain uC_pl _) (congrArg (tab uC) (List.append_nil _).symm), ⟨⟩⟩) kr kr ?_
  rintro v9 k9 ⟨rfl, rfl⟩
  refine ⟨rfl, .bool true, kr, ?_⟩
  refine sv_run 3 ?_
  refine sv_callp 29 7 #[(pgV (s5 10 C0_.length) nd10_ nr10_ hd10_ hr10_ (s1 11 OD0_.length) (s1 12 RD0_.length) fl10_ nx10_ tg10_ br10_ tk10_ ct10_ vs10_)] (@irText_s C0_ OD0_ RD0_ nd10_ nr10_ hd10_ hr10_ fl10_ nx10_ tg10_ br10_ tk10_ ct10_ vs10_ q1_4 (by omega)) [some 10, some 11, some 12] kr kr kr (hn_of 0 kr ⟨iiC_b, inC_b, inC_b, ⟨⟩⟩) kr kr ?_
  rintro v9 k9 ⟨rfl, rfl⟩
  refine ⟨rfl, .string (⟨⟨lines C0_⟩⟩ : ByteArray), kr, ?_⟩
  refine sv_rd 30 (pgV (s5 10 C0_.length) nd10_ nr10_ hd10_ hr10_ (s1 11 OD0_.length) (s1 12 RD0_.length) fl10_ nx10_ tg10_ br10_ tk10_ ct10_ vs10_) 32 13 0 kr kr kr kr (veqs_c (veq_slice _ _ _) (veqs_c (veq_int _ _) (veqs_c (veq_int _ _) (veqs_c (veq_int _ _) (veqs_c (veq_int _ _) (veqs_c (veq_slice _ _ _) (veqs_c (veq_slice _ _ _) (veqs_c (veq_int _ _) (veqs_c (veq_int _ _) (veqs_c (veq_int _ _) (veqs_c (veq_int _ _) (veqs_c (veq_int _ _) (veqs_c (veq_int _ _) (veqs_c (veq_int _ _) rfl)))))))))))))) kr ?_
  refine sv_callp 31 8 #[(pgV (s5 10 C0_.length) nd10_ nr10_ hd10_ hr10_ (s1 11 OD0_.length) (s1 12 RD0_.length) fl10_ nx10_ tg10_ br10_ tk10_ ct10_ vs10_)] (@lawText_s C0_ OD0_ RD0_ nd10_ nr10_ hd10_ hr10_ fl10_ nx10_ tg10_ br10_ tk10_ ct10_ vs10_ q1_4 (by omega)) [some 10, some 11, some 12] kr kr kr (hn_of 0 kr ⟨iiC_b, inC_b, inC_b, ⟨⟩⟩) kr kr ?_
  rintro v9 k9 ⟨rfl, rfl⟩
  refine ⟨rfl, .string (⟨⟨lines C0_⟩⟩ : ByteArray), kr, ?_⟩
  refine sv_run 1 ?_
  refine sv_see 32 (.bool true) (see_bool (x := ((⟨⟨lines C0_⟩⟩ : ByteArray).toList == (⟨⟨lines C0_⟩⟩ : ByteArray).toList)) kr (beq_self_eq_true _)) ?_
  refine sv_run 2 ?_
  refine sv_ask 35 (.bool true) 9 #[] kr kr kr rfl ?_
  refine sv_run 2 ?_
  refine sv_end kr ?_
  refine sd_run 2 ?_
  refine sdY (.bool true) hX [(inCo xo true), (inCo xa true), (inCo xb true), (uCo xi true), (inCo xd true), (inCo xr true), (uCo d true), (uCo r true)] i8_ ⟨inC_b, inC_b, inC_b, uC_b, inC_b, inC_b, uC_b, uC_b, ⟨⟩⟩ ⟨rfl, rfl⟩
 ·skip
  refine sd_run 5 (sdF 14 ((d.length : Int) > 30) (by omega) kr (sd_run 6 (sd_drawP kr ?_)))
  refine svp_go 2 ?_
  refine svp_line ?_
  refine sv_callp 21 6 #[(pgV (s5 10 C0_.length) nd10_ nr10_ hd10_ hr10_ (s1 11 OD0_.length) (s1 12 RD0_.length) fl10_ nx10_ tg10_ br10_ tk10_ ct10_ vs10_), (stq q q.pc (s1 14 ((d.take 16).length)) (s1 15 ((r.take 16).length)) (Int.tmod q.fl 16) (Int.tmod q.cnt 1099511627776))] (@same_s C0_ OD0_ RD0_ nd10_ nr10_ hd10_ hr10_ fl10_ nx10_ tg10_ br10_ tk10_ ct10_ vs10_ (⟨q.pc, (Int.tmod q.fl 16), q.root, q.vec, q.epc, q.cause, q.addr, (Int.tmod q.cnt 1099511627776), q.su, q.pg, q.ie, q.es, q.ei, q.ha⟩ : Sx) (d.take 16) (d.drop 16) (r.take 16) (r.drop 16) false (unk + 1) (unk + 1) (by first | omega | (simp; done) | (simp; omega)) (by first | omega | (simp; done) | (simp; omega)) (by first | omega | (simp; done) | (simp; omega)) (fun x hx => (q1_4 x hx).2.2.2.2) (by first | omega | (simp; done) | (simp; omega)) (by first | omega | (simp; done) | (simp; omega)) (hd32.take 16) (hr32.take 16) hq9 (.inl rfl) (.inl rfl)) [some 10, some 11, some 12, some 14, some 15] kr kr kr (hn_of 0 kr ⟨iiC_b, inC_b, inC_b, bk_flat (tab uC (d.take 16 ++ d.drop 16)) kr (tab_plain uC_pl _) (by rfl), bk_flat (tab uC (r.take 16 ++ r.drop 16)) kr (tab_plain uC_pl _) (by rfl), ⟨⟩⟩) kr kr ?_
  rintro v9 k9 ⟨rfl, rfl⟩
  refine ⟨rfl, .bool true, kr, ?_⟩
  refine sv_run 3 ?_
  refine sv_callp 25 6 #[(pgV (s5 10 C0_.length) nd10_ nr10_ hd10_ hr10_ (s1 11 OD0_.length) (s1 12 RD0_.length) fl10_ nx10_ tg10_ br10_ tk10_ ct10_ vs10_), (stq q q.pc (s1 6 d.length) (s1 7 r.length) q.fl q.cnt)] (@same_s C0_ OD0_ RD0_ nd10_ nr10_ hd10_ hr10_ fl10_ nx10_ tg10_ br10_ tk10_ ct10_ vs10_ q d [] r [] true (unk + 1) (unk + 1) (by first | omega | (simp; done) | (simp; omega)) (by first | omega | (simp; done) | (simp; omega)) (by first | omega | (simp; done) | (simp; omega)) (fun x hx => (q1_4 x hx).2.2.2.2) (by first | omega | (simp; done) | (simp; omega)) (by first | omega | (simp; done) | (simp; omega)) hd32 hr32 hfl (.inl rfl) (.inl rfl)) [some 10, some 11, some 12, some 6, some 7] kr kr kr (hn_of 0 kr ⟨iiC_b, inC_b, inC_b, bk_flat (tab uC d) kr (tab_plain uC_pl _) (congrArg (tab uC) (List.append_nil _).symm), bk_flat (tab uC r) kr (tab_plain uC_pl _) (congrArg (tab uC) (List.append_nil _).symm), ⟨⟩⟩) kr kr ?_
  rintro v9 k9 ⟨rfl, rfl⟩
  refine ⟨rfl, .bool true, kr, ?_⟩
  refine sv_run 3 ?_
  refine sv_callp 29 7 #[(pgV (s5 10 C0_.length) nd10_ nr10_ hd10_ hr10_ (s1 11 OD0_.length) (s1 12 RD0_.length) fl10_ nx10_ tg10_ br10_ tk10_ ct10_ vs10_)] (@irText_s C0_ OD0_ RD0_ nd10_ nr10_ hd10_ hr10_ fl10_ nx10_ tg10_ br10_ tk10_ ct10_ vs10_ q1_4 (by omega)) [some 10, some 11, some 12] kr kr kr (hn_of 0 kr ⟨iiC_b, inC_b, inC_b, ⟨⟩⟩) kr kr ?_
  rintro v9 k9 ⟨rfl, rfl⟩
  refine ⟨rfl, .string (⟨⟨lines C0_⟩⟩ : ByteArray), kr, ?_⟩
  refine sv_rd 30 (pgV (s5 10 C0_.length) nd10_ nr10_ hd10_ hr10_ (s1 11 OD0_.length) (s1 12 RD0_.length) fl10_ nx10_ tg10_ br10_ tk10_ ct10_ vs10_) 32 13 0 kr kr kr kr (veqs_c (veq_slice _ _ _) (veqs_c (veq_int _ _) (veqs_c (veq_int _ _) (veqs_c (veq_int _ _) (veqs_c (veq_int _ _) (veqs_c (veq_slice _ _ _) (veqs_c (veq_slice _ _ _) (veqs_c (veq_int _ _) (veqs_c (veq_int _ _) (veqs_c (veq_int _ _) (veqs_c (veq_int _ _) (veqs_c (veq_int _ _) (veqs_c (veq_int _ _) (veqs_c (veq_int _ _) rfl)))))))))))))) kr ?_
  refine sv_callp 31 8 #[(pgV (s5 10 C0_.length) nd10_ nr10_ hd10_ hr10_ (s1 11 OD0_.length) (s1 12 RD0_.length) fl10_ nx10_ tg10_ br10_ tk10_ ct10_ vs10_)] (@lawText_s C0_ OD0_ RD0_ nd10_ nr10_ hd10_ hr10_ fl10_ nx10_ tg10_ br10_ tk10_ ct10_ vs10_ q1_4 (by omega)) [some 10, some 11, some 12] kr kr kr (hn_of 0 kr ⟨iiC_b, inC_b, inC_b, ⟨⟩⟩) kr kr ?_
  rintro v9 k9 ⟨rfl, rfl⟩
  refine ⟨rfl, .string (⟨⟨lines C0_⟩⟩ : ByteArray), kr, ?_⟩
  refine sv_run 1 ?_
  refine sv_see 32 (.bool true) (see_bool (x := ((⟨⟨lines C0_⟩⟩ : ByteArray).toList == (⟨⟨lines C0_⟩⟩ : ByteArray).toList)) kr (beq_self_eq_true _)) ?_
  refine sv_run 2 ?_
  refine sv_ask 35 (.bool true) 9 #[] kr kr kr rfl ?_
  refine sv_run 2 ?_
  refine sv_end kr ?_
  refine sd_run 2 ?_
  refine sdY (.bool true) hX [(inCo xo true), (inCo xa true), (inCo xb true), (uCo xi true), (inCo xd true), (inCo xr true), (uCo d true), (uCo r true)] i8_ ⟨inC_b, inC_b, inC_b, uC_b, inC_b, inC_b, uC_b, uC_b, ⟨⟩⟩ ⟨rfl, rfl⟩
end Ls
end Go.Proofs.YtgpphhdndmdlgaaDoor
