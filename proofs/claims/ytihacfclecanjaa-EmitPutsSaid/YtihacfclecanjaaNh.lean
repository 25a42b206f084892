/- Chapter 22: EmitPuts walked. -/
import Derived.Test.YtihacfclecanjaaNg
import Derived.Test.YtihacfclecanjaaJf
namespace Go.Proofs.Ytihacfclecanjaa
open Go Go.Ev Go.RowKit
set_option linter.unusedVariables false
set_option linter.unusedSimpArgs false
set_option maxRecDepth 100000
namespace Ls
theorem tm16 {x : Int} (h : 0 ≤ x ∧ x < 4294967296) : 0 ≤ Int.tmod x 16 ∧ Int.tmod x 16 ≤ 15 := by rw [Int.tmod_eq_emod_of_nonneg h.1]; omega
theorem tm40 {x : Int} (h : 0 ≤ x ∧ x < 18446744073709551616) : 0 ≤ Int.tmod x 1099511627776 ∧ Int.tmod x 1099511627776 < 1099511627776 := by rw [Int.tmod_eq_emod_of_nonneg h.1]; omega
theorem V32.take {l : List Int} (h : V32 l) (n : Nat) : V32 (l.take n) := fun x hx => h x (List.mem_of_mem_take hx)
theorem stOk_of {d r : List Int} {fl : Int} (h1 : d.length ≤ 16) (h2 : r.length ≤ 16) (h3 : fl ≤ 15) : stOk d r fl = true := by simp [stOk, h1, h2, h3]
theorem stOk_no {d r : List Int} {fl : Int} (h : 16 < d.length ∨ 16 < r.length ∨ 15 < fl) : ¬ stOk d r fl = true := fun q => by
 simp only [stOk, Bool.and_eq_true, decide_eq_true_eq] at q; omega
noncomputable def f4b : Code := Try.f4.body.getD .skip
theorem f4_body : Try.f4.body = some f4b := by kernel_rfl
theorem f4_fn : T15.fn 4 = some Try.f4 := by kernel_rfl
set_option maxHeartbeats 4000000 in
theorem emitputs_s {q : Sx} {d r xw : List Int} {e2 : Int} (hd32 : V32 d) (hr32 : V32 r) (hdb : d.length * 4 ≤ 140737488355328) (hrb : r.length * 4 ≤ 140737488355328) (hfl : 0 ≤ q.fl ∧ q.fl < 4294967296) (hcn : 0 ≤ q.cnt ∧ q.cnt < 18446744073709551616) (hpc9 : 0 ≤ q.pc ∧ q.pc < 4294967296) (hw32 : ∀ x ∈ xw, 0 ≤ x ∧ x < 4294967296) (hwl : xw.length ≤ 9223372036854775807) (he2 : i64B e2 = true) : SCall Try.prog T15 4 #[(stq q q.pc (s1 0 d.length) (s1 1 r.length) q.fl q.cnt), (s1 2 xw.length), .int .i64 e2] (hq [(uCo d true), (uCo r true), (uCo xw true)]) fun v h => v = .bool true ∧ h = hq [(uCo d true), (uCo r true), (uCo xw true)] := by
 simp only [i64B, Bool.and_eq_true, decide_eq_true_eq] at he2
 obtain ⟨n, hn0⟩ := Int.eq_ofNat_of_zero_le (show 0 ≤ 250 + e2 % (260 - 250 + 1) by omega)
 have hn9 : 250 ≤ n ∧ n ≤ 260 := by omega
 have hfl9 := tm16 hfl
 have hcn9 := tm40 hcn
 have htd : (d.take 16).length ≤ 16 := by simp; omega
 have htr : (r.take 16).length ≤ 16 := by simp; omega
 have hok9 : stOk (d.take 16) (r.take 16) (Int.tmod q.fl 16) = true := stOk_of (by simp; omega) (by simp; omega) hfl9.2
 refine scall_sd 258 _ 3 kr f4_fn f4_body rfl rfl rfl fun X hX => ?_
 refine sd_run 9 (sd_ask 25 (.int .i64 (250 + e2 % (260 - 250 + 1))) 10 #[.int .i64 e2, .int .i64 250, .int .i64 260] kr kr kr (orc10 e2 250 260 (inB_of (by first | omega | (simp only [bd] at *; omega)) (by first | omega | (simp only [bd] at *; omega)) (by first | omega | (simp only [bd] at *; omega)) (by first | omega | (simp only [bd] at *; omega)))) (sd_see 25 (.int .i64 (n : Int)) (see_int (x := (250 + e2 % (260 - 250 + 1))) kr hn0) (sd_run 18 (sdF 5 ((n : Int) < 1) (by omega) kr (sd_run 3 (sdF 8 ((n : Int) > 65536) (by omega) kr (sd_run 9 ?_)))))))
 refine sd_make 11 32 22 4 n 4 .i64 .i64 [Value.int .u32 0] (tab uC (List.replicate n (0 : Int))) kr kr kr kr (by omega) (by omega) kr (tab_one (enc := uC) (a := (0 : Int)) rfl _) (sd_run 30 (sd_mid 258 (cl (cr (cr (cr (cr f4b))))) [.next (cr (cr (cr (cr (cr f4b)))))] kr kr kr (fun s9 => s9 = ⟨tmL [(1, (s1 2 xw.length)), (3, .pointer (some ⟨3, 0, none⟩)), (7, .int .i64 (n : Int)), (8, .pointer (some ⟨5, 0, none⟩)), (10, .bool (stOk d r q.fl))], hq [(uCo d true), (uCo r true), (uCo xw true), some ⟨(slq q q.pc (s1 0 d.length) (s1 1 r.length) q.fl q.cnt), 35, false⟩, (uCo (List.replicate n (0 : Int)) false), some ⟨[Value.int .u64 0, .int .u64 0, .int .u64 0, .int .u64 0, .int .u64 0, .int .u64 0, .int .u64 0, .int .u64 0, .int .u64 0, .int .u64 0, .int .u64 0, .int .u64 0, .int .u64 0, .int .u64 0, .int .u64 0, .int .u64 0, .slice (some ⟨4, 0, none⟩) n n, .slice none 0 0, .int .i64 0], 86, false⟩]⟩) hX ?_ ?_))
 ·intro R1_ hR1_
  rcases (by omega : (d.length ≤ 16 ∧ r.length ≤ 16 ∧ q.fl < 16) ∨ 16 < d.length ∨ (d.length ≤ 16 ∧ 16 < r.length) ∨ (d.length ≤ 16 ∧ r.length ≤ 16 ∧ ¬ q.fl < 16)) with hz | hz | hz | hz
  ·skip
   refine sd_run 5 (sdT 40 ((d.length : Int) ≤ 16) (by omega) kr (sd_run 5 (sdT 45 ((r.length : Int) ≤ 16) (by omega) kr (sd_run 5 (sd_see 50 (.bool true) (see_bool (x := (decide ((q.fl : Int) < 16))) kr (decide_eq_true (by omega))) (sd_run 3 (sd_see 10 (.bool (stOk d r q.fl)) (see_bool (x := true) kr (by rw [eq_comm]; exact stOk_of hz.1 hz.2.1 (by omega))) ?_)))))))
   refine sd_inv R1_ kr (hR1_ _ _ e6_ rfl ⟨sub_of kr kr ⟨uC_b, uC_b, uC_b, brn, uC_b, brn, ⟨⟩⟩, te_of kr kr⟩ kr)
  ·skip
   refine sd_run 5 (sdF 40 ((d.length : Int) ≤ 16) (by omega) kr (sd_run 13 (sd_see 10 (.bool (stOk d r q.fl)) (see_bool (x := false) kr (by rw [eq_comm]; exact eq_false_of_ne_true (stOk_no (by omega)))) ?_)))
   refine sd_inv R1_ kr (hR1_ _ _ e6_ rfl ⟨sub_of kr kr ⟨uC_b, uC_b, uC_b, brn, uC_b, brn, ⟨⟩⟩, te_of kr kr⟩ kr)
  ·skip
   refine sd_run 5 (sdT 40 ((d.length : Int) ≤ 16) (by omega) kr (sd_run 5 (sdF 45 ((r.length : Int) ≤ 16) (by omega) kr (sd_run 8 (sd_see 10 (.bool (stOk d r q.fl)) (see_bool (x := false) kr (by rw [eq_comm]; exact eq_false_of_ne_true (stOk_no (by omega)))) ?_)))))
   refine sd_inv R1_ kr (hR1_ _ _ e6_ rfl ⟨sub_of kr kr ⟨uC_b, uC_b, uC_b, brn, uC_b, brn, ⟨⟩⟩, te_of kr kr⟩ kr)
  ·skip
   refine sd_run 5 (sdT 40 ((d.length : Int) ≤ 16) (by omega) kr (sd_run 5 (sdT 45 ((r.length : Int) ≤ 16) (by omega) kr (sd_run 5 (sd_see 50 (.bool false) (see_bool (x := (decide ((q.fl : Int) < 16))) kr (decide_eq_false (by omega))) (sd_run 3 (sd_see 10 (.bool (stOk d r q.fl)) (see_bool (x := false) kr (by rw [eq_comm]; exact eq_false_of_ne_true (stOk_no (by omega)))) ?_)))))))
   refine sd_inv R1_ kr (hR1_ _ _ e6_ rfl ⟨sub_of kr kr ⟨uC_b, uC_b, uC_b, brn, uC_b, brn, ⟨⟩⟩, te_of kr kr⟩ kr)
 ·rintro s9 rfl
  refine sd_run 3 ?_
  by_cases hn6 : n = 256
  ·skip
   refine sd_run 3 (sdC 54 12 #[.pointer (some ⟨5, 0, none⟩), (stq q q.pc (s1 0 d.length) (s1 1 r.length) q.fl q.cnt)] (@eput_any 0 0 0 0 0 0 0 0 0 0 0 0 0 0 0 0 0 (List.replicate n (0 : Int)) [] n (unk + 1) n q d [] r [] true (unk + 1) (unk + 1) (by simp) hn6 (W32.rep n) hd32 hr32 hpc9 hfl) [some 5, some 4, none, some 0, some 1] ⟨brn, uC_b, rfl, bk_flat (tab uC d) kr (tab_plain uC_pl _) (congrArg (tab uC) (List.append_nil _).symm), bk_flat (tab uC r) kr (tab_plain uC_pl _) (congrArg (tab uC) (List.append_nil _).symm), ⟨⟩⟩ ?_)
   rintro hn9 v9 k9 ⟨M10_, q1_0, q1_1, rfl, rfl⟩
   refine mkG (.bool (stOk d r q.fl)) [(uCo d true), (uCo r true), (uCo xw true), some ⟨(slq q q.pc (s1 0 d.length) (s1 1 r.length) q.fl q.cnt), 35, false⟩, (uCo M10_ false), some ⟨[Value.int .u64 0, .int .u64 0, .int .u64 0, .int .u64 0, .int .u64 0, .int .u64 0, .int .u64 0, .int .u64 0, .int .u64 0, .int .u64 0, .int .u64 0, .int .u64 0, .int .u64 0, .int .u64 0, .int .u64 0, .int .u64 0, .slice (some ⟨4, 0, none⟩) n n, .slice none 0 0, .int .i64 0], 86, false⟩] ⟨cvs 3 hn9, cvs 4 hn9, cvo, cvo, uC_c 1, cvs 0 hn9, ⟨⟩⟩ ?_
   refine sd_run 2 (sdE 56 (n : Int) 256 (by omega) kr (sd_run 4 (sd_see 60 (.bool false) (see_bool (x := ((stOk d r q.fl) != (stOk d r q.fl))) kr (by simp)) (sd_run 8 (sdC 62 13 #[(stq q q.pc (s1 0 d.length) (s1 1 r.length) q.fl q.cnt)] (@trim_s q d [] r [] true hdb hrb) i2_ ⟨bk_flat (tab uC d) kr (tab_plain uC_pl _) (congrArg (tab uC) (List.append_nil _).symm), bk_flat (tab uC r) kr (tab_plain uC_pl _) (congrArg (tab uC) (List.append_nil _).symm), ⟨⟩⟩ ?_)))))
   rintro hn9 v9 k9 ⟨rfl, rfl⟩
   refine mkG (stq q q.pc (s1 6 ((d.take 16).length)) (s1 7 ((r.take 16).length)) (Int.tmod q.fl 16) (Int.tmod q.cnt 1099511627776)) [(uCo d true), (uCo r true), (uCo xw true), some ⟨(slq q q.pc (s1 0 d.length) (s1 1 r.length) q.fl q.cnt), 35, false⟩, (uCo M10_ false), some ⟨[Value.int .u64 0, .int .u64 0, .int .u64 0, .int .u64 0, .int .u64 0, .int .u64 0, .int .u64 0, .int .u64 0, .int .u64 0, .int .u64 0, .int .u64 0, .int .u64 0, .int .u64 0, .int .u64 0, .int .u64 0, .int .u64 0, .slice (some ⟨4, 0, none⟩) n n, .slice none 0 0, .int .i64 0], 86, false⟩, (uCo (d.take 16 ++ d.drop 16) false), (uCo (r.take 16 ++ r.drop 16) false)] ⟨cvs 0 hn9, cvs 1 hn9, cvo, cvo, cvo, cvo, uC_c 2, uC_c 3, ⟨⟩⟩ ?_
   refine sd_run 9 (sdC 65 12 #[.pointer (some ⟨5, 0, none⟩), (stq q q.pc (s1 6 ((d.take 16).length)) (s1 7 ((r.take 16).length)) (Int.tmod q.fl 16) (Int.tmod q.cnt 1099511627776))] (@eput_ok 0 0 0 0 0 0 0 0 0 0 0 0 0 0 0 0 0 M10_ [] n (unk + 1) n (⟨q.pc, (Int.tmod q.fl 16), q.root, q.vec, q.epc, q.cause, q.addr, (Int.tmod q.cnt 1099511627776), q.su, q.pg, q.ie, q.es, q.ei, q.ha⟩ : Sx) (d.take 16) (d.drop 16) (r.take 16) (r.drop 16) false (unk + 1) (unk + 1) q1_0 hn6 hok9) [some 5, some 4, none, some 6, some 7] ⟨brn, uC_b, rfl, bk_flat (tab uC (d.take 16 ++ d.drop 16)) kr (tab_plain uC_pl _) (by rfl), bk_flat (tab uC (r.take 16 ++ r.drop 16)) kr (tab_plain uC_pl _) (by rfl), ⟨⟩⟩ ?_)
   rintro hn9 v9 k9 ⟨rfl, rfl⟩
   refine mkG (.bool true) [(uCo d true), (uCo r true), (uCo xw true), some ⟨(slq q q.pc (s1 0 d.length) (s1 1 r.length) q.fl q.cnt), 35, false⟩, (uCo (putM M10_ (d.take 16) (r.take 16) q.pc (Int.tmod q.fl 16)) false), some ⟨[Value.int .u64 0, .int .u64 0, .int .u64 0, .int .u64 0, .int .u64 0, .int .u64 0, .int .u64 0, .int .u64 0, .int .u64 0, .int .u64 0, .int .u64 0, .int .u64 0, .int .u64 0, .int .u64 0, .int .u64 0, .int .u64 0, .slice (some ⟨4, 0, none⟩) n n, .slice none 0 0, .int .i64 0], 86, false⟩, (uCo (d.take 16 ++ d.drop 16) false), (uCo (r.take 16 ++ r.drop 16) false), some ⟨(slq q q.pc (s1 6 ((d.take 16).length)) (s1 7 ((r.take 16).length)) (Int.tmod q.fl 16) (Int.tmod q.cnt 1099511627776)), 35, false⟩] ⟨cvo, cvo, cvo, cvo, uC_c 1, cvs 0 hn9, cvs 3 hn9, cvs 4 hn9, cvo, ⟨⟩⟩ ?_
   refine sd_run 2 (sdE 67 (n : Int) 256 (by omega) kr (sd_run 11 (sdQ 70 (n : Int) 256 (by omega) kr (sd_run 6 ?_))))
   have hl1 : M10_.length = 256 := by rw [q1_0]; exact hn6
   have hwn2 : (putM M10_ (d.take 16) (r.take 16) q.pc (Int.tmod q.fl 16)).length = n := by rw [putM_len]; exact q1_0
   have hM2 : W32 (putM M10_ (d.take 16) (r.take 16) q.pc (Int.tmod q.fl 16)) := W32.put q1_1 hl1 (hd32.take 16) (hr32.take 16) (by simp; omega) (by simp; omega) hpc9 (by omega)
   have hg : ∀ j, j < 4 → (putM M10_ (d.take 16) (r.take 16) q.pc (Int.tmod q.fl 16)).getD j 0 = (if j = 3 then ((r.take 16).length : Int) else if j = 2 then ((d.take 16).length : Int) else if j = 1 then (Int.tmod q.fl 16) else q.pc) := fun j hj => by rw [putM_get hl1, if_neg (by omega), if_neg (by omega), if_neg (by omega)]; repeat' split; all_goals first | rfl | omega
   have hD0 : takeM (putM M10_ (d.take 16) (r.take 16) q.pc (Int.tmod q.fl 16)) 4 (d.take 16).length = (d.take 16) := take_d hl1 (by simp; omega) _ _
   have hR0 : takeM (putM M10_ (d.take 16) (r.take 16) q.pc (Int.tmod q.fl 16)) 20 (r.take 16).length = (r.take 16) := take_r hl1 (by simp; omega) _ _
   have hct0 : IntKind.u64.wrap (Int.tmod q.cnt 1099511627776 + (putM M10_ (d.take 16) (r.take 16) q.pc (Int.tmod q.fl 16)).getD 36 0) = Int.tmod q.cnt 1099511627776 := by rw [putM_get hl1, if_pos rfl]; exact wu64 (by omega) (by omega) (by omega)
   have hgd : ∀ j, j < 16 → (putM M10_ (d.take 16) (r.take 16) q.pc (Int.tmod q.fl 16)).getD (4 + j) 0 = (d.take 16).getD j 0 := fun j hj => by rw [putM_get hl1, if_neg (by omega), if_neg (by omega), if_pos (by omega), show 4 + j - 4 = j by omega]
   have hgr : ∀ j, j < 16 → (putM M10_ (d.take 16) (r.take 16) q.pc (Int.tmod q.fl 16)).getD (20 + j) 0 = (r.take 16).getD j 0 := fun j hj => by rw [putM_get hl1, if_neg (by omega), if_pos (by omega), show 20 + j - 20 = j by omega]
   refine sd_run 3 (sdC 85 14 #[.pointer (some ⟨5, 0, none⟩), (stq q q.pc (s1 6 ((d.take 16).length)) (s1 7 ((r.take 16).length)) (Int.tmod q.fl 16) (Int.tmod q.cnt 1099511627776))] (@eget_as 0 0 0 0 0 0 0 0 0 0 0 0 0 0 0 0 0 (putM M10_ (d.take 16) (r.take 16) q.pc (Int.tmod q.fl 16)) [] n (unk + 1) n ((d.take 16).length) ((r.take 16).length) q.pc (Int.tmod q.fl 16) (Int.tmod q.cnt 1099511627776) (d.take 16) (r.take 16) (⟨q.pc, (Int.tmod q.fl 16), q.root, q.vec, q.epc, q.cause, q.addr, (Int.tmod q.cnt 1099511627776), q.su, q.pg, q.ie, q.es, q.ei, q.ha⟩ : Sx) (d.take 16) (d.drop 16) (r.take 16) (r.drop 16) false (unk + 1) (unk + 1) hwn2 (by first | omega | (simp; done) | (simp; omega)) (by first | omega | (simp; done) | (simp; omega)) hM2 hn6 (hg 2 (by decide)) (hg 3 (by decide)) (by simp; omega) (by simp; omega) (by rw [hg 1 (by decide)]; exact hfl9.2) hD0 hR0 (hg 0 (by decide)) (hg 1 (by decide)) hct0) [some 5, some 4, none, some 6, some 7] ⟨brn, uC_b, rfl, bk_flat (tab uC (d.take 16 ++ d.drop 16)) kr (tab_plain uC_pl _) (by rfl), bk_flat (tab uC (r.take 16 ++ r.drop 16)) kr (tab_plain uC_pl _) (by rfl), ⟨⟩⟩ ?_)
   rintro hn9 v9 k9 ⟨rfl, rfl⟩
   refine mkG (.tuple #[(stq q q.pc (s1 9 ((d.take 16).length)) (s1 10 ((r.take 16).length)) (Int.tmod q.fl 16) (Int.tmod q.cnt 1099511627776)), .bool true]) [(uCo d true), (uCo r true), (uCo xw true), some ⟨(slq q q.pc (s1 0 d.length) (s1 1 r.length) q.fl q.cnt), 35, false⟩, (uCo (putM M10_ (d.take 16) (r.take 16) q.pc (Int.tmod q.fl 16)) false), some ⟨[Value.int .u64 0, .int .u64 0, .int .u64 0, .int .u64 0, .int .u64 0, .int .u64 0, .int .u64 0, .int .u64 0, .int .u64 0, .int .u64 0, .int .u64 0, .int .u64 0, .int .u64 0, .int .u64 0, .int .u64 0, .int .u64 0, .slice (some ⟨4, 0, none⟩) n n, .slice none 0 0, .int .i64 0], 86, false⟩, (uCo (d.take 16 ++ d.drop 16) false), (uCo (r.take 16 ++ r.drop 16) false), some ⟨(slq q q.pc (s1 6 ((d.take 16).length)) (s1 7 ((r.take 16).length)) (Int.tmod q.fl 16) (Int.tmod q.cnt 1099511627776)), 35, false⟩, (uCo (d.take 16) false), (uCo (r.take 16) false)] ⟨cvo, cvo, cvo, cvo, cvs 1 hn9, cvs 0 hn9, cvs 3 hn9, cvs 4 hn9, cvo, uC_c 5, uC_c 6, ⟨⟩⟩ ?_
   refine sd_run 10 (sd_drawP kr ?_)
   refine svp_go 5 ?_
   refine svp_line ?_
   refine sv_callp 93 15 #[(stq q q.pc (s1 9 ((d.take 16).length)) (s1 10 ((r.take 16).length)) (Int.tmod q.fl 16) (Int.tmod q.cnt 1099511627776)), (stq q q.pc (s1 6 ((d.take 16).length)) (s1 7 ((r.take 16).length)) (Int.tmod q.fl 16) (Int.tmod q.cnt 1099511627776))] (@keep_t (⟨q.pc, (Int.tmod q.fl 16), q.root, q.vec, q.epc, q.cause, q.addr, (Int.tmod q.cnt 1099511627776), q.su, q.pg, q.ie, q.es, q.ei, q.ha⟩ : Sx) (d.take 16) [] (d.drop 16) (r.take 16) [] (r.drop 16) false false (unk + 1) (unk + 1) (unk + 1) (unk + 1) (by first | omega | (simp; done) | (simp; omega)) (by first | omega | (simp; done) | (simp; omega))) [some 9, some 10, some 6, some 7] kr kr kr (hn_of 0 kr ⟨bk_flat (tab uC (d.take 16)) kr (tab_plain uC_pl _) (congrArg (tab uC) (List.append_nil _).symm), bk_flat (tab uC (r.take 16)) kr (tab_plain uC_pl _) (congrArg (tab uC) (List.append_nil _).symm), bk_flat (tab uC (d.take 16 ++ d.drop 16)) kr (tab_plain uC_pl _) (by rfl), bk_flat (tab uC (r.take 16 ++ r.drop 16)) kr (tab_plain uC_pl _) (by rfl), ⟨⟩⟩) kr kr ?_
   rintro v9 k9 ⟨rfl, rfl⟩
   refine ⟨rfl, .bool true, kr, ?_⟩
   refine sv_run 4 ?_
   refine sv_callp 98 16 #[.pointer (some ⟨5, 0, none⟩), .int .i64 0] (@word_s 0 0 0 0 0 0 0 0 0 0 0 0 0 0 0 0 0 (putM M10_ (d.take 16) (r.take 16) q.pc (Int.tmod q.fl 16)) [] n (unk + 1) n 0 hwn2) [some 5, some 4, none] kr kr kr (hn_of 0 kr ⟨brn, uC_b, rfl, ⟨⟩⟩) kr kr ?_
   rintro v9 k9 ⟨rfl, rfl⟩
   refine ⟨rfl, .int .u32 ((putM M10_ (d.take 16) (r.take 16) q.pc (Int.tmod q.fl 16)).getD 0 0), kr, ?_⟩
   refine sv_see 98 (.int .u32 q.pc) (see_int (x := ((putM M10_ (d.take 16) (r.take 16) q.pc (Int.tmod q.fl 16)).getD 0 0)) kr (hg 0 (by decide))) ?_
   refine sv_run 1 ?_
   refine sv_rd 100 (.int .u32 q.pc) 22 8 0 kr kr kr kr (veq_int _ _) kr ?_
   refine sv_run 1 ?_
   refine sv_see 101 (.bool false) (see_bool kr ((bne_self_eq_false _) : ((q.pc : Int) != q.pc) = false)) ?_
   refine sv_run 3 ?_
   refine sv_callp 105 16 #[.pointer (some ⟨5, 0, none⟩), .int .i64 1] (@word_s 0 0 0 0 0 0 0 0 0 0 0 0 0 0 0 0 0 (putM M10_ (d.take 16) (r.take 16) q.pc (Int.tmod q.fl 16)) [] n (unk + 1) n 1 hwn2) [some 5, some 4, none] kr kr kr (hn_of 0 kr ⟨brn, uC_b, rfl, ⟨⟩⟩) kr kr ?_
   rintro v9 k9 ⟨rfl, rfl⟩
   refine ⟨rfl, .int .u32 ((putM M10_ (d.take 16) (r.take 16) q.pc (Int.tmod q.fl 16)).getD 1 0), kr, ?_⟩
   refine sv_see 105 (.int .u32 (Int.tmod q.fl 16)) (see_int (x := ((putM M10_ (d.take 16) (r.take 16) q.pc (Int.tmod q.fl 16)).getD 1 0)) kr (hg 1 (by decide))) ?_
   refine sv_run 1 ?_
   refine sv_rd 107 (.int .u32 (Int.tmod q.fl 16)) 22 8 3 kr kr kr kr (veq_int _ _) kr ?_
   refine sv_run 1 ?_
   refine sv_see 108 (.bool false) (see_bool kr ((bne_self_eq_false _) : (((Int.tmod q.fl 16) : Int) != (Int.tmod q.fl 16)) = false)) ?_
   refine sv_run 3 ?_
   refine sv_callp 112 16 #[.pointer (some ⟨5, 0, none⟩), .int .i64 2] (@word_s 0 0 0 0 0 0 0 0 0 0 0 0 0 0 0 0 0 (putM M10_ (d.take 16) (r.take 16) q.pc (Int.tmod q.fl 16)) [] n (unk + 1) n 2 hwn2) [some 5, some 4, none] kr kr kr (hn_of 0 kr ⟨brn, uC_b, rfl, ⟨⟩⟩) kr kr ?_
   rintro v9 k9 ⟨rfl, rfl⟩
   refine ⟨rfl, .int .u32 ((putM M10_ (d.take 16) (r.take 16) q.pc (Int.tmod q.fl 16)).getD 2 0), kr, ?_⟩
   refine sv_see 112 (.int .u32 ((d.take 16).length : Int)) (see_int (x := ((putM M10_ (d.take 16) (r.take 16) q.pc (Int.tmod q.fl 16)).getD 2 0)) kr (hg 2 (by decide))) ?_
   refine sv_run 1 ?_
   refine sv_see 113 (.int .i64 ((d.take 16).length : Int)) (see_int (x := IntKind.i64.wrap ((d.take 16).length : Int)) kr (w64 rfl (by omega) (by omega))) ?_
   refine sv_run 1 ?_
   refine sv_rd 115 (s1 6 ((d.take 16).length)) 32 8 1 kr kr kr kr (veq_slice _ _ _) kr ?_
   refine sv_run 2 ?_
   refine sv_see 117 (.bool false) (see_bool kr ((bne_self_eq_false _) : (((d.take 16).length : Int) != ((d.take 16).length : Int)) = false)) ?_
   refine sv_run 3 ?_
   refine sv_callp 121 16 #[.pointer (some ⟨5, 0, none⟩), .int .i64 3] (@word_s 0 0 0 0 0 0 0 0 0 0 0 0 0 0 0 0 0 (putM M10_ (d.take 16) (r.take 16) q.pc (Int.tmod q.fl 16)) [] n (unk + 1) n 3 hwn2) [some 5, some 4, none] kr kr kr (hn_of 0 kr ⟨brn, uC_b, rfl, ⟨⟩⟩) kr kr ?_
   rintro v9 k9 ⟨rfl, rfl⟩
   refine ⟨rfl, .int .u32 ((putM M10_ (d.take 16) (r.take 16) q.pc (Int.tmod q.fl 16)).getD 3 0), kr, ?_⟩
   refine sv_see 121 (.int .u32 ((r.take 16).length : Int)) (see_int (x := ((putM M10_ (d.take 16) (r.take 16) q.pc (Int.tmod q.fl 16)).getD 3 0)) kr (hg 3 (by decide))) ?_
   refine sv_run 1 ?_
   refine sv_see 122 (.int .i64 ((r.take 16).length : Int)) (see_int (x := IntKind.i64.wrap ((r.take 16).length : Int)) kr (w64 rfl (by omega) (by omega))) ?_
   refine sv_run 1 ?_
   refine sv_rd 124 (s1 7 ((r.take 16).length)) 32 8 2 kr kr kr kr (veq_slice _ _ _) kr ?_
   refine sv_run 2 ?_
   refine sv_see 126 (.bool false) (see_bool kr ((bne_self_eq_false _) : (((r.take 16).length : Int) != ((r.take 16).length : Int)) = false)) ?_
   refine sv_run 1 ?_
   refine sv_end kr ?_
   refine sd_run 11 ?_
   refine sd_loop 258 (cl (cl (cr (cl (cr (cr (cr (cr (cr (cr (cr (cr (cr (cr (cr f4b))))))))))))))) [.blk 0, .next (cr (cr (cr (cr (cr (cr (cr (cr (cr (cr (cr (cr f4b))))))))))))] kr kr kr (fun m9 s9 => ∃ (i : Nat), m9 = 16 - i ∧ (i ≤ 16) ∧ s9 = ⟨tmL [(1, (s1 2 xw.length)), (8, .pointer (some ⟨5, 0, none⟩)), (11, .pointer (some ⟨8, 0, none⟩)), (16, .int .i64 (i : Int))], hq [(uCo d true), (uCo r true), (uCo xw true), none, (uCo (putM M10_ (d.take 16) (r.take 16) q.pc (Int.tmod q.fl 16)) false), some ⟨[Value.int .u64 0, .int .u64 0, .int .u64 0, .int .u64 0, .int .u64 0, .int .u64 0, .int .u64 0, .int .u64 0, .int .u64 0, .int .u64 0, .int .u64 0, .int .u64 0, .int .u64 0, .int .u64 0, .int .u64 0, .int .u64 0, .slice (some ⟨4, 0, none⟩) n n, .slice none 0 0, .int .i64 0], 86, false⟩, (uCo (d.take 16 ++ d.drop 16) false), (uCo (r.take 16 ++ r.drop 16) false), some ⟨(slq q q.pc (s1 6 ((d.take 16).length)) (s1 7 ((r.take 16).length)) (Int.tmod q.fl 16) (Int.tmod q.cnt 1099511627776)), 35, false⟩]⟩) (16 - 0) _ (emOf [some 0, some 1, some 2, none, some 4, some 5, some 6, some 7, some 8]) hX ⟨0, rfl, (by omega), rfl⟩ ⟨sub_of kr kr ⟨uC_b, uC_b, uC_b, uC_b, brn, uC_b, uC_b, brn, ⟨⟩⟩, te_of kr kr⟩ kr ?_
   rintro m9 s9 ⟨i, rfl, i2_0, rfl⟩ R2_ hR2_
   by_cases hi16 : i < 16
   ·skip
    rcases (by omega : (i < d.length ∧ i < r.length) ∨ (i < d.length ∧ ¬ i < r.length) ∨ (¬ i < d.length ∧ i < r.length) ∨ (¬ i < d.length ∧ ¬ i < r.length)) with hz | hz | hz | hz
    ·skip
     obtain ⟨x9, hx9⟩ : ∃ x_, (d.take 16)[i]? = some x_ := ⟨_, List.getElem?_eq_getElem (by simp; omega)⟩
     obtain ⟨y9, hy9⟩ : ∃ x_, (r.take 16)[i]? = some x_ := ⟨_, List.getElem?_eq_getElem (by simp; omega)⟩
     refine sd_run 5 (sdT 129 ((i : Int) < 16) (by omega) kr (sd_run 21 (sd_see 136 (.bool true) (see_bool (x := (decide ((i : Int) < ((d.take 16).length : Int)))) kr (decide_eq_true (by simp; omega))) (sd_run 7 (sd_ix 140 (.pointer (some ⟨6, 0 + i * 1, none⟩)) i ((d.take 16).length) kr kr kr (by first | omega | (simp; omega)) (sd_ld 141 (.int .u32 x9) 22 (.pointer (some ⟨6, 0 + i * 1, none⟩)) kr kr kr (ld_cell (l := d.take 16 ++ d.drop 16) (e := 22) (ro := false) (k := i) (j := 0) uC_len kr kr kr (app_at hx9) rfl) (sd_run 11 ?_)))))))
     refine sd_see 146 (.bool true) (see_bool (x := (decide ((i : Int) < ((r.take 16).length : Int)))) kr (decide_eq_true (by simp; omega))) (sd_run 7 (sd_ix 150 (.pointer (some ⟨7, 0 + i * 1, none⟩)) i ((r.take 16).length) kr kr kr (by first | omega | (simp; omega)) (sd_ld 151 (.int .u32 y9) 22 (.pointer (some ⟨7, 0 + i * 1, none⟩)) kr kr kr (ld_cell (l := r.take 16 ++ r.drop 16) (e := 22) (ro := false) (k := i) (j := 0) uC_len kr kr kr (app_at hy9) rfl) (sd_run 8 (sd_see 154 (.int .i64 ((4 + i : Nat) : Int)) (see_int (x := (IntKind.i64.wrap (4 + (i : Int)))) kr (w64 (by omega) (by omega) (by omega))) (sdCp 155 16 #[.pointer (some ⟨5, 0, none⟩), .int .i64 ((4 + i : Nat) : Int)] (@word_s 0 0 0 0 0 0 0 0 0 0 0 0 0 0 0 0 0 (putM M10_ (d.take 16) (r.take 16) q.pc (Int.tmod q.fl 16)) [] n (unk + 1) n (4 + i) hwn2) [some 5, some 4, none] ⟨brn, uC_b, rfl, ⟨⟩⟩ ?_))))))
     rintro v9 k9 ⟨rfl, rfl⟩
     refine ⟨rfl, .int .u32 ((putM M10_ (d.take 16) (r.take 16) q.pc (Int.tmod q.fl 16)).getD (4 + i) 0), kr, ?_⟩
     refine sd_see 155 (.int .u32 x9) (see_int (x := ((putM M10_ (d.take 16) (r.take 16) q.pc (Int.tmod q.fl 16)).getD (4 + i) 0)) kr (by rw [hgd i (by omega)]; exact getD_row hx9)) (sd_run 2 (sd_see 157 (.bool false) (see_bool (x := ((x9 : Int) != x9)) kr (by simp)) (sd_run 4 (sd_see 161 (.int .i64 ((20 + i : Nat) : Int)) (see_int (x := (IntKind.i64.wrap (20 + (i : Int)))) kr (w64 (by omega) (by omega) (by omega))) (sdCp 162 16 #[.pointer (some ⟨5, 0, none⟩), .int .i64 ((20 + i : Nat) : Int)] (@word_s 0 0 0 0 0 0 0 0 0 0 0 0 0 0 0 0 0 (putM M10_ (d.take 16) (r.take 16) q.pc (Int.tmod q.fl 16)) [] n (unk + 1) n (20 + i) hwn2) [some 5, some 4, none] ⟨brn, uC_b, rfl, ⟨⟩⟩ ?_)))))
     rintro v9 k9 ⟨rfl, rfl⟩
     refine ⟨rfl, .int .u32 ((putM M10_ (d.take 16) (r.take 16) q.pc (Int.tmod q.fl 16)).getD (20 + i) 0), kr, ?_⟩
     refine sd_see 162 (.int .u32 y9) (see_int (x := ((putM M10_ (d.take 16) (r.take 16) q.pc (Int.tmod q.fl 16)).getD (20 + i) 0)) kr (by rw [hgr i (by omega)]; exact getD_row hy9)) (sd_run 2 (sd_see 164 (.bool false) (see_bool (x := ((y9 : Int) != y9)) kr (by simp)) (sd_run 10 (sd_see 131 (.int .i64 ((i + 1 : Nat) : Int)) (see_int (x := (IntKind.i64.wrap ((i : Int) + 1))) kr (w64 (by omega) (by omega) (by omega))) (sd_run 2 ?_)))))
     refine sd_inv R2_ kr (hR2_ _ (16 - (i + 1)) _ (emOf [some 0, some 1, some 2, none, some 4, some 5, some 6, some 7, some 8]) (by omega) ⟨i + 1, rfl, (by omega), rfl⟩ ⟨sub_of kr kr ⟨uC_b, uC_b, uC_b, uC_b, brn, uC_b, uC_b, brn, ⟨⟩⟩, te_of kr kr⟩ kr)
    ·skip
     obtain ⟨x9, hx9⟩ : ∃ x_, (d.take 16)[i]? = some x_ := ⟨_, List.getElem?_eq_getElem (by simp; omega)⟩
     refine sd_run 5 (sdT 129 ((i : Int) < 16) (by omega) kr (sd_run 21 (sd_see 136 (.bool true) (see_bool (x := (decide ((i : Int) < ((d.take 16).length : Int)))) kr (decide_eq_true (by simp; omega))) (sd_run 7 (sd_ix 140 (.pointer (some ⟨6, 0 + i * 1, none⟩)) i ((d.take 16).length) kr kr kr (by first | omega | (simp; omega)) (sd_ld 141 (.int .u32 x9) 22 (.pointer (some ⟨6, 0 + i * 1, none⟩)) kr kr kr (ld_cell (l := d.take 16 ++ d.drop 16) (e := 22) (ro := false) (k := i) (j := 0) uC_len kr kr kr (app_at hx9) rfl) (sd_run 11 ?_)))))))
     refine sd_see 146 (.bool false) (see_bool (x := (decide ((i : Int) < ((r.take 16).length : Int)))) kr (decide_eq_false (by simp; omega))) (sd_run 10 (sd_see 154 (.int .i64 ((4 + i : Nat) : Int)) (see_int (x := (IntKind.i64.wrap (4 + (i : Int)))) kr (w64 (by omega) (by omega) (by omega))) (sdCp 155 16 #[.pointer (some ⟨5, 0, none⟩), .int .i64 ((4 + i : Nat) : Int)] (@word_s 0 0 0 0 0 0 0 0 0 0 0 0 0 0 0 0 0 (putM M10_ (d.take 16) (r.take 16) q.pc (Int.tmod q.fl 16)) [] n (unk + 1) n (4 + i) hwn2) [some 5, some 4, none] ⟨brn, uC_b, rfl, ⟨⟩⟩ ?_)))
     rintro v9 k9 ⟨rfl, rfl⟩
     refine ⟨rfl, .int .u32 ((putM M10_ (d.take 16) (r.take 16) q.pc (Int.tmod q.fl 16)).getD (4 + i) 0), kr, ?_⟩
     refine sd_see 155 (.int .u32 x9) (see_int (x := ((putM M10_ (d.take 16) (r.take 16) q.pc (Int.tmod q.fl 16)).getD (4 + i) 0)) kr (by rw [hgd i (by omega)]; exact getD_row hx9)) (sd_run 2 (sd_see 157 (.bool false) (see_bool (x := ((x9 : Int) != x9)) kr (by simp)) (sd_run 4 (sd_see 161 (.int .i64 ((20 + i : Nat) : Int)) (see_int (x := (IntKind.i64.wrap (20 + (i : Int)))) kr (w64 (by omega) (by omega) (by omega))) (sdCp 162 16 #[.pointer (some ⟨5, 0, none⟩), .int .i64 ((20 + i : Nat) : Int)] (@word_s 0 0 0 0 0 0 0 0 0 0 0 0 0 0 0 0 0 (putM M10_ (d.take 16) (r.take 16) q.pc (Int.tmod q.fl 16)) [] n (unk + 1) n (20 + i) hwn2) [some 5, some 4, none] ⟨brn, uC_b, rfl, ⟨⟩⟩ ?_)))))
     rintro v9 k9 ⟨rfl, rfl⟩
     refine ⟨rfl, .int .u32 ((putM M10_ (d.take 16) (r.take 16) q.pc (Int.tmod q.fl 16)).getD (20 + i) 0), kr, ?_⟩
     refine sd_see 162 (.int .u32 0) (see_int (x := ((putM M10_ (d.take 16) (r.take 16) q.pc (Int.tmod q.fl 16)).getD (20 + i) 0)) kr (by rw [hgr i (by omega)]; exact getD_out (by simp; omega))) (sd_run 2 (sd_see 164 (.bool false) (see_bool (x := false) kr (by simp)) (sd_run 10 (sd_see 131 (.int .i64 ((i + 1 : Nat) : Int)) (see_int (x := (IntKind.i64.wrap ((i : Int) + 1))) kr (w64 (by omega) (by omega) (by omega))) (sd_run 2 ?_)))))
     refine sd_inv R2_ kr (hR2_ _ (16 - (i + 1)) _ (emOf [some 0, some 1, some 2, none, some 4, some 5, some 6, some 7, some 8]) (by omega) ⟨i + 1, rfl, (by omega), rfl⟩ ⟨sub_of kr kr ⟨uC_b, uC_b, uC_b, uC_b, brn, uC_b, uC_b, brn, ⟨⟩⟩, te_of kr kr⟩ kr)
    ·skip
     obtain ⟨y9, hy9⟩ : ∃ x_, (r.take 16)[i]? = some x_ := ⟨_, List.getElem?_eq_getElem (by simp; omega)⟩
     refine sd_run 5 (sdT 129 ((i : Int) < 16) (by omega) kr (sd_run 21 (sd_see 136 (.bool false) (see_bool (x := (decide ((i : Int) < ((d.take 16).length : Int)))) kr (decide_eq_false (by simp; omega))) (sd_run 13 (sd_see 146 (.bool true) (see_bool (x := (decide ((i : Int) < ((r.take 16).length : Int)))) kr (decide_eq_true (by simp; omega))) (sd_run 7 (sd_ix 150 (.pointer (some ⟨7, 0 + i * 1, none⟩)) i ((r.take 16).length) kr kr kr (by first | omega | (simp; omega)) ?_)))))))
     refine sd_ld 151 (.int .u32 y9) 22 (.pointer (some ⟨7, 0 + i * 1, none⟩)) kr kr kr (ld_cell (l := r.take 16 ++ r.drop 16) (e := 22) (ro := false) (k := i) (j := 0) uC_len kr kr kr (app_at hy9) rfl) (sd_run 8 (sd_see 154 (.int .i64 ((4 + i : Nat) : Int)) (see_int (x := (IntKind.i64.wrap (4 + (i : Int)))) kr (w64 (by omega) (by omega) (by omega))) (sdCp 155 16 #[.pointer (some ⟨5, 0, none⟩), .int .i64 ((4 + i : Nat) : Int)] (@word_s 0 0 0 0 0 0 0 0 0 0 0 0 0 0 0 0 0 (putM M10_ (d.take 16) (r.take 16) q.pc (Int.tmod q.fl 16)) [] n (unk + 1) n (4 + i) hwn2) [some 5, some 4, none] ⟨brn, uC_b, rfl, ⟨⟩⟩ ?_)))
     rintro v9 k9 ⟨rfl, rfl⟩
     refine ⟨rfl, .int .u32 ((putM M10_ (d.take 16) (r.take 16) q.pc (Int.tmod q.fl 16)).getD (4 + i) 0), kr, ?_⟩
     refine sd_see 155 (.int .u32 0) (see_int (x := ((putM M10_ (d.take 16) (r.take 16) q.pc (Int.tmod q.fl 16)).getD (4 + i) 0)) kr (by rw [hgd i (by omega)]; exact getD_out (by simp; omega))) (sd_run 2 (sd_see 157 (.bool false) (see_bool (x := false) kr (by simp)) (sd_run 4 (sd_see 161 (.int .i64 ((20 + i : Nat) : Int)) (see_int (x := (IntKind.i64.wrap (20 + (i : Int)))) kr (w64 (by omega) (by omega) (by omega))) (sdCp 162 16 #[.pointer (some ⟨5, 0, none⟩), .int .i64 ((20 + i : Nat) : Int)] (@word_s 0 0 0 0 0 0 0 0 0 0 0 0 0 0 0 0 0 (putM M10_ (d.take 16) (r.take 16) q.pc (Int.tmod q.fl 16)) [] n (unk + 1) n (20 + i) hwn2) [some 5, some 4, none] ⟨brn, uC_b, rfl, ⟨⟩⟩ ?_)))))
     rintro v9 k9 ⟨rfl, rfl⟩
     refine ⟨rfl, .int .u32 ((putM M10_ (d.take 16) (r.take 16) q.pc (Int.tmod q.fl 16)).getD (20 + i) 0), kr, ?_⟩
     refine sd_see 162 (.int .u32 y9) (see_int (x := ((putM M10_ (d.take 16) (r.take 16) q.pc (Int.tmod q.fl 16)).getD (20 + i) 0)) kr (by rw [hgr i (by omega)]; exact getD_row hy9)) (sd_run 2 (sd_see 164 (.bool false) (see_bool (x := ((y9 : Int) != y9)) kr (by simp)) (sd_run 10 (sd_see 131 (.int .i64 ((i + 1 : Nat) : Int)) (see_int (x := (IntKind.i64.wrap ((i : Int) + 1))) kr (w64 (by omega) (by omega) (by omega))) (sd_run 2 ?_)))))
     refine sd_inv R2_ kr (hR2_ _ (16 - (i + 1)) _ (emOf [some 0, some 1, some 2, none, some 4, some 5, some 6, some 7, some 8]) (by omega) ⟨i + 1, rfl, (by omega), rfl⟩ ⟨sub_of kr kr ⟨uC_b, uC_b, uC_b, uC_b, brn, uC_b, uC_b, brn, ⟨⟩⟩, te_of kr kr⟩ kr)
    ·skip
     refine sd_run 5 (sdT 129 ((i : Int) < 16) (by omega) kr (sd_run 21 (sd_see 136 (.bool false) (see_bool (x := (decide ((i : Int) < ((d.take 16).length : Int)))) kr (decide_eq_false (by simp; omega))) (sd_run 13 (sd_see 146 (.bool false) (see_bool (x := (decide ((i : Int) < ((r.take 16).length : Int)))) kr (decide_eq_false (by simp; omega))) (sd_run 10 (sd_see 154 (.int .i64 ((4 + i : Nat) : Int)) (see_int (x := (IntKind.i64.wrap (4 + (i : Int)))) kr (w64 (by omega) (by omega) (by omega))) ?_)))))))
     refine sdCp 155 16 #[.pointer (some ⟨5, 0, none⟩), .int .i64 ((4 + i : Nat) : Int)] (@word_s 0 0 0 0 0 0 0 0 0 0 0 0 0 0 0 0 0 (putM M10_ (d.take 16) (r.take 16) q.pc (Int.tmod q.fl 16)) [] n (unk + 1) n (4 + i) hwn2) [some 5, some 4, none] ⟨brn, uC_b, rfl, ⟨⟩⟩ ?_
     rintro v9 k9 ⟨rfl, rfl⟩
     refine ⟨rfl, .int .u32 ((putM M10_ (d.take 16) (r.take 16) q.pc (Int.tmod q.fl 16)).getD (4 + i) 0), kr, ?_⟩
     refine sd_see 155 (.int .u32 0) (see_int (x := ((putM M10_ (d.take 16) (r.take 16) q.pc (Int.tmod q.fl 16)).getD (4 + i) 0)) kr (by rw [hgd i (by omega)]; exact getD_out (by simp; omega))) (sd_run 2 (sd_see 157 (.bool false) (see_bool (x := false) kr (by simp)) (sd_run 4 (sd_see 161 (.int .i64 ((20 + i : Nat) : Int)) (see_int (x := (IntKind.i64.wrap (20 + (i : Int)))) kr (w64 (by omega) (by omega) (by omega))) (sdCp 162 16 #[.pointer (some ⟨5, 0, none⟩), .int .i64 ((20 + i : Nat) : Int)] (@word_s 0 0 0 0 0 0 0 0 0 0 0 0 0 0 0 0 0 (putM M10_ (d.take 16) (r.take 16) q.pc (Int.tmod q.fl 16)) [] n (unk + 1) n (20 + i) hwn2) [some 5, some 4, none] ⟨brn, uC_b, rfl, ⟨⟩⟩ ?_)))))
     rintro v9 k9 ⟨rfl, rfl⟩
     refine ⟨rfl, .int .u32 ((putM M10_ (d.take 16) (r.take 16) q.pc (Int.tmod q.fl 16)).getD (20 + i) 0), kr, ?_⟩
     refine sd_see 162 (.int .u32 0) (see_int (x := ((putM M10_ (d.take 16) (r.take 16) q.pc (Int.tmod q.fl 16)).getD (20 + i) 0)) kr (by rw [hgr i (by omega)]; exact getD_out (by simp; omega))) (sd_run 2 (sd_see 164 (.bool false) (see_bool (x := false) kr (by simp)) (sd_run 10 (sd_see 131 (.int .i64 ((i + 1 : Nat) : Int)) (see_int (x := (IntKind.i64.wrap ((i : Int) + 1))) kr (w64 (by omega) (by omega) (by omega))) (sd_run 2 ?_)))))
     refine sd_inv R2_ kr (hR2_ _ (16 - (i + 1)) _ (emOf [some 0, some 1, some 2, none, some 4, some 5, some 6, some 7, some 8]) (by omega) ⟨i + 1, rfl, (by omega), rfl⟩ ⟨sub_of kr kr ⟨uC_b, uC_b, uC_b, uC_b, brn, uC_b, uC_b, brn, ⟨⟩⟩, te_of kr kr⟩ kr)
   ·skip
    obtain rfl : i = 16 := by omega
    refine sd_run 5 (sdF 129 (((16 : Nat) : Int) < 16) (by omega) kr (sd_run 15 ?_))
    obtain ⟨N, hN⟩ : ∃ N, N = min xw.length 5 := ⟨_, rfl⟩
    refine sd_loop 258 (cl (cl (cr (cl (cr (cr (cr (cr (cr (cr (cr (cr (cr (cr (cr (cr f4b)))))))))))))))) [.blk 2, .next (cr (cr (cr (cr (cr (cr (cr (cr (cr (cr (cr (cr (cr f4b)))))))))))))] kr kr kr (fun m9 s9 => ∃ (k : Nat) (M3 : List Int), m9 = N - k ∧ (k ≤ N) ∧ (M3.length = n) ∧ (W32 M3) ∧ s9 = ⟨tmL [(1, (s1 2 xw.length)), (8, .pointer (some ⟨5, 0, none⟩)), (11, .pointer (some ⟨8, 0, none⟩)), (19, .int .i64 (k : Int))], hq [(uCo d true), (uCo r true), (uCo xw true), none, (uCo M3 false), some ⟨[Value.int .u64 0, .int .u64 0, .int .u64 0, .int .u64 0, .int .u64 0, .int .u64 0, .int .u64 0, .int .u64 0, .int .u64 0, .int .u64 0, .int .u64 0, .int .u64 0, .int .u64 0, .int .u64 0, .int .u64 0, .int .u64 0, .slice (some ⟨4, 0, none⟩) n n, .slice none 0 0, .int .i64 0], 86, false⟩, (uCo (d.take 16 ++ d.drop 16) false), (uCo (r.take 16 ++ r.drop 16) false), some ⟨(slq q q.pc (s1 6 ((d.take 16).length)) (s1 7 ((r.take 16).length)) (Int.tmod q.fl 16) (Int.tmod q.cnt 1099511627776)), 35, false⟩]⟩) (N - 0) _ (emOf [some 0, some 1, some 2, none, some 4, some 5, some 6, some 7, some 8]) hX ⟨0, (putM M10_ (d.take 16) (r.take 16) q.pc (Int.tmod q.fl 16)), rfl, (by omega), hwn2, hM2, rfl⟩ ⟨sub_of kr kr ⟨uC_b, uC_b, uC_b, uC_b, brn, uC_b, uC_b, brn, ⟨⟩⟩, te_of kr kr⟩ kr ?_
    rintro m9 s9 ⟨k, M3, rfl, i3_0, i3_1, i3_2, rfl⟩ R3_ hR3_
    by_cases hlt : k < N
    ·skip
     obtain ⟨a2, ha2⟩ : ∃ x_, (xw)[k]? = some x_ := ⟨_, List.getElem?_eq_getElem (by first | omega | (simp; omega))⟩
     have hx32 := hw32 _ (List.mem_of_getElem? ha2)
     by_cases hk0 : k = 0
     ·skip
      refine sd_run 7 (sdT 169 ((k : Int) < (xw.length : Int)) (by omega) kr (sd_run 3 (sdT 172 ((k : Int) < 5) (by omega) kr (sd_run 12 (sd_ix 178 (.pointer (some ⟨2, 0 + k * 1, none⟩)) k xw.length kr kr kr (by first | omega | (simp; omega)) (sd_ld 179 (.int .u32 a2) 22 (.pointer (some ⟨2, 0 + k * 1, none⟩)) kr kr kr (ld_cell (l := xw) (e := 22) (ro := true) (k := k) (j := 0) uC_len kr kr kr ha2 rfl) (sd_run 8 ?_)))))))
      refine sdF 181 ((k : Int) > 0) (by omega) kr (sd_run 9 (sdC 187 17 #[.pointer (some ⟨5, 0, none⟩), .int .i64 (k : Int), .int .u32 a2] (@setw_s 0 0 0 0 0 0 0 0 0 0 0 0 0 0 0 0 0 M3 [] n (unk + 1) n k a2 i3_1 (by omega)) [some 5, some 4, none] ⟨brn, uC_b, rfl, ⟨⟩⟩ ?_))
      rintro hn9 v9 k9 ⟨rfl, rfl⟩
      refine mkG (.bool true) [(uCo d true), (uCo r true), (uCo xw true), none, (uCo (M3.set k a2) false), some ⟨[Value.int .u64 0, .int .u64 0, .int .u64 0, .int .u64 0, .int .u64 0, .int .u64 0, .int .u64 0, .int .u64 0, .int .u64 0, .int .u64 0, .int .u64 0, .int .u64 0, .int .u64 0, .int .u64 0, .int .u64 0, .int .u64 0, .slice (some ⟨4, 0, none⟩) n n, .slice none 0 0, .int .i64 0], 86, false⟩, (uCo (d.take 16 ++ d.drop 16) false), (uCo (r.take 16 ++ r.drop 16) false), some ⟨(slq q q.pc (s1 6 ((d.take 16).length)) (s1 7 ((r.take 16).length)) (Int.tmod q.fl 16) (Int.tmod q.cnt 1099511627776)), 35, false⟩] ⟨cvo, cvo, cvo, uC_c 1, cvs 0 hn9, cvo, cvo, cvo, ⟨⟩⟩ ?_
      refine sd_run 6 (sd_see 175 (.int .i64 ((k + 1 : Nat) : Int)) (see_int (x := (IntKind.i64.wrap ((k : Int) + 1))) kr (w64 (by omega) (by omega) (by omega))) (sd_run 2 ?_))
      refine sd_inv R3_ kr (hR3_ _ (N - (k + 1)) _ (emOf [some 0, some 1, some 2, none, some 4, some 5, some 6, some 7, some 8]) (by omega) ⟨k + 1, (M3.set k a2), rfl, (by omega), (by simp; exact i3_1), (i3_2.set _ (by first | exact hx32 | omega)), rfl⟩ ⟨sub_of kr kr ⟨uC_b, uC_b, uC_b, uC_b, brn, uC_b, uC_b, brn, ⟨⟩⟩, te_of kr kr⟩ kr)
     ·skip
      refine sd_run 7 (sdT 169 ((k : Int) < (xw.length : Int)) (by omega) kr (sd_run 3 (sdT 172 ((k : Int) < 5) (by omega) kr (sd_run 12 (sd_ix 178 (.pointer (some ⟨2, 0 + k * 1, none⟩)) k xw.length kr kr kr (by first | omega | (simp; omega)) (sd_ld 179 (.int .u32 a2) 22 (.pointer (some ⟨2, 0 + k * 1, none⟩)) kr kr kr (ld_cell (l := xw) (e := 22) (ro := true) (k := k) (j := 0) uC_len kr kr kr ha2 rfl) (sd_run 8 ?_)))))))
      refine sdT 181 ((k : Int) > 0) (by omega) kr (sd_run 6 (sd_see 183 (.int .u32 (a2 % 19)) (see_int (x := (Int.tmod a2 19)) kr (Int.tmod_eq_emod_of_nonneg (by omega))) (sd_run 7 (sdC 187 17 #[.pointer (some ⟨5, 0, none⟩), .int .i64 (k : Int), .int .u32 (a2 % 19)] (@setw_s 0 0 0 0 0 0 0 0 0 0 0 0 0 0 0 0 0 M3 [] n (unk + 1) n k (a2 % 19) i3_1 (by omega)) [some 5, some 4, none] ⟨brn, uC_b, rfl, ⟨⟩⟩ ?_))))
      rintro hn9 v9 k9 ⟨rfl, rfl⟩
      refine mkG (.bool true) [(uCo d true), (uCo r true), (uCo xw true), none, (uCo (M3.set k (a2 % 19)) false), some ⟨[Value.int .u64 0, .int .u64 0, .int .u64 0, .int .u64 0, .int .u64 0, .int .u64 0, .int .u64 0, .int .u64 0, .int .u64 0, .int .u64 0, .int .u64 0, .int .u64 0, .int .u64 0, .int .u64 0, .int .u64 0, .int .u64 0, .slice (some ⟨4, 0, none⟩) n n, .slice none 0 0, .int .i64 0], 86, false⟩, (uCo (d.take 16 ++ d.drop 16) false), (uCo (r.take 16 ++ r.drop 16) false), some ⟨(slq q q.pc (s1 6 ((d.take 16).length)) (s1 7 ((r.take 16).length)) (Int.tmod q.fl 16) (Int.tmod q.cnt 1099511627776)), 35, false⟩] ⟨cvo, cvo, cvo, uC_c 1, cvs 0 hn9, cvo, cvo, cvo, ⟨⟩⟩ ?_
      refine sd_run 6 (sd_see 175 (.int .i64 ((k + 1 : Nat) : Int)) (see_int (x := (IntKind.i64.wrap ((k : Int) + 1))) kr (w64 (by omega) (by omega) (by omega))) (sd_run 2 ?_))
      refine sd_inv R3_ kr (hR3_ _ (N - (k + 1)) _ (emOf [some 0, some 1, some 2, none, some 4, some 5, some 6, some 7, some 8]) (by omega) ⟨k + 1, (M3.set k (a2 % 19)), rfl, (by omega), (by simp; exact i3_1), (i3_2.set _ (by first | exact hx32 | omega)), rfl⟩ ⟨sub_of kr kr ⟨uC_b, uC_b, uC_b, uC_b, brn, uC_b, uC_b, brn, ⟨⟩⟩, te_of kr kr⟩ kr)
    ·skip
     obtain rfl : k = N := by omega
     refine sd_run 2 (sd_mid 258 (cl (cl (cl (cl (cr (cl (cr (cr (cr (cr (cr (cr (cr (cr (cr (cr (cr (cr f4b)))))))))))))))))) [.next (cr (cl (cl (cl (cr (cl (cr (cr (cr (cr (cr (cr (cr (cr (cr (cr (cr (cr f4b)))))))))))))))))), .next (cr (cl (cl (cr (cl (cr (cr (cr (cr (cr (cr (cr (cr (cr (cr (cr (cr f4b))))))))))))))))), .inv R3_, .blk 2, .next (cr (cr (cr (cr (cr (cr (cr (cr (cr (cr (cr (cr (cr f4b)))))))))))))] kr kr kr (fun s9 => s9 = ⟨tmL [(1, (s1 2 xw.length)), (8, .pointer (some ⟨5, 0, none⟩)), (11, .pointer (some ⟨8, 0, none⟩)), (19, .int .i64 (k : Int)), (173, .bool false)], hq [(uCo d true), (uCo r true), (uCo xw true), none, (uCo M3 false), some ⟨[Value.int .u64 0, .int .u64 0, .int .u64 0, .int .u64 0, .int .u64 0, .int .u64 0, .int .u64 0, .int .u64 0, .int .u64 0, .int .u64 0, .int .u64 0, .int .u64 0, .int .u64 0, .int .u64 0, .int .u64 0, .int .u64 0, .slice (some ⟨4, 0, none⟩) n n, .slice none 0 0, .int .i64 0], 86, false⟩, (uCo (d.take 16 ++ d.drop 16) false), (uCo (r.take 16 ++ r.drop 16) false), some ⟨(slq q q.pc (s1 6 ((d.take 16).length)) (s1 7 ((r.take 16).length)) (Int.tmod q.fl 16) (Int.tmod q.cnt 1099511627776)), 35, false⟩]⟩) hX ?_ ?_)
     ·intro R4_ hR4_
      rcases (by omega : k = xw.length ∨ (k < xw.length ∧ k = 5)) with hq | hq
      ·skip
       refine sd_run 5 (sdF 169 ((k : Int) < (xw.length : Int)) (by omega) kr (sd_run 5 ?_))
       refine sd_inv R4_ kr (hR4_ _ _ (emOf [some 0, some 1, some 2, none, some 4, some 5, some 6, some 7, some 8]) rfl ⟨sub_of kr kr ⟨uC_b, uC_b, uC_b, uC_b, brn, uC_b, uC_b, brn, ⟨⟩⟩, te_of kr kr⟩ kr)
      ·skip
       refine sd_run 5 (sdT 169 ((k : Int) < (xw.length : Int)) (by omega) kr (sd_run 3 (sdF 172 ((k : Int) < 5) (by omega) kr (sd_run 2 ?_))))
       refine sd_inv R4_ kr (hR4_ _ _ (emOf [some 0, some 1, some 2, none, some 4, some 5, some 6, some 7, some 8]) rfl ⟨sub_of kr kr ⟨uC_b, uC_b, uC_b, uC_b, brn, uC_b, uC_b, brn, ⟨⟩⟩, te_of kr kr⟩ kr)
     ·rintro s9 rfl
      refine sd_run 10 (sdC 189 17 #[.pointer (some ⟨5, 0, none⟩), .int .i64 36, .int .u32 7] (@setw_s 0 0 0 0 0 0 0 0 0 0 0 0 0 0 0 0 0 M3 [] n (unk + 1) n 36 7 i3_1 (by omega)) [some 5, some 4, none] ⟨brn, uC_b, rfl, ⟨⟩⟩ ?_)
      rintro hn9 v9 k9 ⟨rfl, rfl⟩
      refine mkG (.bool true) [(uCo d true), (uCo r true), (uCo xw true), none, (uCo (M3.set 36 7) false), some ⟨[Value.int .u64 0, .int .u64 0, .int .u64 0, .int .u64 0, .int .u64 0, .int .u64 0, .int .u64 0, .int .u64 0, .int .u64 0, .int .u64 0, .int .u64 0, .int .u64 0, .int .u64 0, .int .u64 0, .int .u64 0, .int .u64 0, .slice (some ⟨4, 0, none⟩) n n, .slice none 0 0, .int .i64 0], 86, false⟩, (uCo (d.take 16 ++ d.drop 16) false), (uCo (r.take 16 ++ r.drop 16) false), some ⟨(slq q q.pc (s1 6 ((d.take 16).length)) (s1 7 ((r.take 16).length)) (Int.tmod q.fl 16) (Int.tmod q.cnt 1099511627776)), 35, false⟩] ⟨cvo, cvo, cvo, uC_c 1, cvs 0 hn9, cvo, cvo, cvo, ⟨⟩⟩ ?_
      refine sd_run 3 ?_
      have hwn4 : (M3.set 36 7).length = n := by simp; exact i3_1
      have hM4 : W32 (M3.set 36 7) := i3_2.set _ (by decide)
      have h36 : (M3.set 36 7).getD 36 0 = 7 := by rw [getD_set, if_pos ⟨rfl, by omega⟩]
      have hb1 := hM4 1
      have hb2 := hM4 2
      have hb3 := hM4 3
      rcases (by omega : ((M3.set 36 7).getD 1 0 < 16 ∧ (M3.set 36 7).getD 2 0 ≤ 16 ∧ (M3.set 36 7).getD 3 0 ≤ 16) ∨ ¬ (M3.set 36 7).getD 1 0 < 16 ∨ ((M3.set 36 7).getD 1 0 < 16 ∧ ¬ (M3.set 36 7).getD 2 0 ≤ 16) ∨ ((M3.set 36 7).getD 1 0 < 16 ∧ (M3.set 36 7).getD 2 0 ≤ 16 ∧ ¬ (M3.set 36 7).getD 3 0 ≤ 16)) with hz | hz | hz | hz
      ·skip
       obtain ⟨n2, hm2⟩ := Int.eq_ofNat_of_zero_le hb2.1
       obtain ⟨n3, hm3⟩ := Int.eq_ofNat_of_zero_le hb3.1
       refine sd_run 2 (sdCp 191 16 #[.pointer (some ⟨5, 0, none⟩), .int .i64 1] (@word_s 0 0 0 0 0 0 0 0 0 0 0 0 0 0 0 0 0 (M3.set 36 7) [] n (unk + 1) n 1 hwn4) [some 5, some 4, none] ⟨brn, uC_b, rfl, ⟨⟩⟩ ?_)
       rintro v9 k9 ⟨rfl, rfl⟩
       refine ⟨rfl, .int .u32 ((M3.set 36 7).getD 1 0), kr, ?_⟩
       refine sd_run 1 (sd_see 192 (.bool true) (see_bool (x := (decide (((M3.set 36 7).getD 1 0) < 16))) kr (decide_eq_true (by omega))) (sd_run 2 (sdCp 195 16 #[.pointer (some ⟨5, 0, none⟩), .int .i64 2] (@word_s 0 0 0 0 0 0 0 0 0 0 0 0 0 0 0 0 0 (M3.set 36 7) [] n (unk + 1) n 2 hwn4) [some 5, some 4, none] ⟨brn, uC_b, rfl, ⟨⟩⟩ ?_)))
       rintro v9 k9 ⟨rfl, rfl⟩
       refine ⟨rfl, .int .u32 ((M3.set 36 7).getD 2 0), kr, ?_⟩
       refine sd_run 1 (sd_see 196 (.bool true) (see_bool (x := (decide (((M3.set 36 7).getD 2 0) ≤ 16))) kr (decide_eq_true (by omega))) (sd_run 3 (sdCp 200 16 #[.pointer (some ⟨5, 0, none⟩), .int .i64 3] (@word_s 0 0 0 0 0 0 0 0 0 0 0 0 0 0 0 0 0 (M3.set 36 7) [] n (unk + 1) n 3 hwn4) [some 5, some 4, none] ⟨brn, uC_b, rfl, ⟨⟩⟩ ?_)))
       rintro v9 k9 ⟨rfl, rfl⟩
       refine ⟨rfl, .int .u32 ((M3.set 36 7).getD 3 0), kr, ?_⟩
       refine sd_run 1 (sd_see 201 (.bool true) (see_bool (x := (decide (((M3.set 36 7).getD 3 0) ≤ 16))) kr (decide_eq_true (by omega))) (sd_run 8 (sdC 206 14 #[.pointer (some ⟨5, 0, none⟩), (stq q q.pc (s1 6 ((d.take 16).length)) (s1 7 ((r.take 16).length)) (Int.tmod q.fl 16) (Int.tmod q.cnt 1099511627776))] (@eget_ok 0 0 0 0 0 0 0 0 0 0 0 0 0 0 0 0 0 (M3.set 36 7) [] n (unk + 1) n (⟨q.pc, (Int.tmod q.fl 16), q.root, q.vec, q.epc, q.cause, q.addr, (Int.tmod q.cnt 1099511627776), q.su, q.pg, q.ie, q.es, q.ei, q.ha⟩ : Sx) (d.take 16) (d.drop 16) (r.take 16) (r.drop 16) false (unk + 1) (unk + 1) n2 n3 hwn4 (by first | omega | (simp; done) | (simp; omega)) (by first | omega | (simp; done) | (simp; omega)) hM4 hn6 hm2 hm3 (by omega) (by omega) (by omega)) [some 5, some 4, none, some 6, some 7] ⟨brn, uC_b, rfl, bk_flat (tab uC (d.take 16 ++ d.drop 16)) kr (tab_plain uC_pl _) (by rfl), bk_flat (tab uC (r.take 16 ++ r.drop 16)) kr (tab_plain uC_pl _) (by rfl), ⟨⟩⟩ ?_)))
       rintro hn9 v9 k9 ⟨rfl, rfl⟩
       refine mkG (.tuple #[(stq q ((M3.set 36 7).getD 0 0) (s1 9 ((takeM (M3.set 36 7) 4 n2).length)) (s1 10 ((takeM (M3.set 36 7) 20 n3).length)) ((M3.set 36 7).getD 1 0) (IntKind.u64.wrap ((Int.tmod q.cnt 1099511627776) + ((M3.set 36 7).getD 36 0)))), .bool true]) [(uCo d true), (uCo r true), (uCo xw true), none, (uCo (M3.set 36 7) false), some ⟨[Value.int .u64 0, .int .u64 0, .int .u64 0, .int .u64 0, .int .u64 0, .int .u64 0, .int .u64 0, .int .u64 0, .int .u64 0, .int .u64 0, .int .u64 0, .int .u64 0, .int .u64 0, .int .u64 0, .int .u64 0, .int .u64 0, .slice (some ⟨4, 0, none⟩) n n, .slice none 0 0, .int .i64 0], 86, false⟩, (uCo (d.take 16 ++ d.drop 16) false), (uCo (r.take 16 ++ r.drop 16) false), some ⟨(slq q q.pc (s1 6 ((d.take 16).length)) (s1 7 ((r.take 16).length)) (Int.tmod q.fl 16) (Int.tmod q.cnt 1099511627776)), 35, false⟩, (uCo (takeM (M3.set 36 7) 4 n2) false), (uCo (takeM (M3.set 36 7) 20 n3) false)] ⟨cvo, cvo, cvo, cvs 1 hn9, cvs 0 hn9, cvs 3 hn9, cvs 4 hn9, cvo, uC_c 5, uC_c 6, ⟨⟩⟩ ?_
       refine sd_run 30 (sd_drawP kr ?_)
       refine svp_go 4 ?_
       refine svp_line ?_
       refine sv_rd 226 (.int .u32 ((M3.set 36 7).getD 0 0)) 22 11 0 kr kr kr kr (veq_int _ _) kr ?_
       refine sv_run 1 ?_
       refine sv_callp 228 16 #[.pointer (some ⟨5, 0, none⟩), .int .i64 0] (@word_s 0 0 0 0 0 0 0 0 0 0 0 0 0 0 0 0 0 (M3.set 36 7) [] n (unk + 1) n 0 hwn4) [some 5, some 4, none] kr kr kr (hn_of 0 kr ⟨brn, uC_b, rfl, ⟨⟩⟩) kr kr ?_
       rintro v9 k9 ⟨rfl, rfl⟩
       refine ⟨rfl, .int .u32 ((M3.set 36 7).getD 0 0), kr, ?_⟩
       refine sv_run 1 ?_
       refine sv_see 229 (.bool true) (see_bool (x := (((M3.set 36 7).getD 0 0) == ((M3.set 36 7).getD 0 0))) kr (by simp)) ?_
       refine sv_run 2 ?_
       refine sv_rd 232 (.int .u32 ((M3.set 36 7).getD 1 0)) 22 11 3 kr kr kr kr (veq_int _ _) kr ?_
       refine sv_run 1 ?_
       refine sv_callp 234 16 #[.pointer (some ⟨5, 0, none⟩), .int .i64 1] (@word_s 0 0 0 0 0 0 0 0 0 0 0 0 0 0 0 0 0 (M3.set 36 7) [] n (unk + 1) n 1 hwn4) [some 5, some 4, none] kr kr kr (hn_of 0 kr ⟨brn, uC_b, rfl, ⟨⟩⟩) kr kr ?_
       rintro v9 k9 ⟨rfl, rfl⟩
       refine ⟨rfl, .int .u32 ((M3.set 36 7).getD 1 0), kr, ?_⟩
       refine sv_run 1 ?_
       refine sv_see 235 (.bool true) (see_bool (x := (((M3.set 36 7).getD 1 0) == ((M3.set 36 7).getD 1 0))) kr (by simp)) ?_
       refine sv_run 3 ?_
       refine sv_rd 239 (s1 9 ((takeM (M3.set 36 7) 4 n2).length)) 32 11 1 kr kr kr kr (veq_slice _ _ _) kr ?_
       refine sv_run 2 ?_
       refine sv_callp 242 16 #[.pointer (some ⟨5, 0, none⟩), .int .i64 2] (@word_s 0 0 0 0 0 0 0 0 0 0 0 0 0 0 0 0 0 (M3.set 36 7) [] n (unk + 1) n 2 hwn4) [some 5, some 4, none] kr kr kr (hn_of 0 kr ⟨brn, uC_b, rfl, ⟨⟩⟩) kr kr ?_
       rintro v9 k9 ⟨rfl, rfl⟩
       refine ⟨rfl, .int .u32 ((M3.set 36 7).getD 2 0), kr, ?_⟩
       refine sv_see 242 (.int .u32 (n2 : Int)) (see_int (x := ((M3.set 36 7).getD 2 0)) kr hm2) ?_
       refine sv_run 1 ?_
       refine sv_see 243 (.int .i64 (n2 : Int)) (see_int (x := IntKind.i64.wrap (n2 : Int)) kr (w64 rfl (by omega) (by omega))) ?_
       refine sv_run 1 ?_
       refine sv_see 244 (.bool true) (see_bool (x := (((takeM (M3.set 36 7) 4 n2).length : Int) == (n2 : Int))) kr (by simp)) ?_
       refine sv_run 8 ?_
       refine sv_see 252 (.bool true) (see_bool (x := (((IntKind.u64.wrap ((Int.tmod q.cnt 1099511627776) + ((M3.set 36 7).getD 36 0))) : Int) == (IntKind.u64.wrap ((Int.tmod q.cnt 1099511627776) + 7)))) kr (by rw [h36]; simp)) ?_
       refine sv_run 3 ?_
       refine sv_ask 256 (.bool true) 9 #[] kr kr kr rfl ?_
       refine sv_run 2 ?_
       refine sv_end kr ?_
       refine sd_run 2 ?_
       refine sdY (.bool true) hX [(uCo d true), (uCo r true), (uCo xw true)] i3_ ⟨uC_b, uC_b, uC_b, ⟨⟩⟩ ⟨rfl, rfl⟩
      ·skip
       refine sd_run 2 (sdCp 191 16 #[.pointer (some ⟨5, 0, none⟩), .int .i64 1] (@word_s 0 0 0 0 0 0 0 0 0 0 0 0 0 0 0 0 0 (M3.set 36 7) [] n (unk + 1) n 1 hwn4) [some 5, some 4, none] ⟨brn, uC_b, rfl, ⟨⟩⟩ ?_)
       rintro v9 k9 ⟨rfl, rfl⟩
       refine ⟨rfl, .int .u32 ((M3.set 36 7).getD 1 0), kr, ?_⟩
       refine sd_run 1 (sd_see 192 (.bool false) (see_bool (x := (decide (((M3.set 36 7).getD 1 0) < 16))) kr (decide_eq_false (by omega))) (sd_run 17 (sdC 206 14 #[.pointer (some ⟨5, 0, none⟩), (stq q q.pc (s1 6 ((d.take 16).length)) (s1 7 ((r.take 16).length)) (Int.tmod q.fl 16) (Int.tmod q.cnt 1099511627776))] (@eget_no 0 0 0 0 0 0 0 0 0 0 0 0 0 0 0 0 0 (M3.set 36 7) [] n (unk + 1) n (⟨q.pc, (Int.tmod q.fl 16), q.root, q.vec, q.epc, q.cause, q.addr, (Int.tmod q.cnt 1099511627776), q.su, q.pg, q.ie, q.es, q.ei, q.ha⟩ : Sx) (d.take 16) (d.drop 16) (r.take 16) (r.drop 16) false (unk + 1) (unk + 1) hwn4 (by first | omega | (simp; done) | (simp; omega)) (by first | omega | (simp; done) | (simp; omega)) hM4 (by omega) (fun h => by omega)) [some 5, some 4, none, some 6, some 7] ⟨brn, uC_b, rfl, bk_flat (tab uC (d.take 16 ++ d.drop 16)) kr (tab_plain uC_pl _) (by rfl), bk_flat (tab uC (r.take 16 ++ r.drop 16)) kr (tab_plain uC_pl _) (by rfl), ⟨⟩⟩ ?_)))
       rintro hn9 v9 k9 ⟨rfl, rfl⟩
       refine mkG (.tuple #[(stq q q.pc (s1 9 ((d.take 16).length)) (s1 10 ((r.take 16).length)) (Int.tmod q.fl 16) (Int.tmod q.cnt 1099511627776)), .bool false]) [(uCo d true), (uCo r true), (uCo xw true), none, (uCo (M3.set 36 7) false), some ⟨[Value.int .u64 0, .int .u64 0, .int .u64 0, .int .u64 0, .int .u64 0, .int .u64 0, .int .u64 0, .int .u64 0, .int .u64 0, .int .u64 0, .int .u64 0, .int .u64 0, .int .u64 0, .int .u64 0, .int .u64 0, .int .u64 0, .slice (some ⟨4, 0, none⟩) n n, .slice none 0 0, .int .i64 0], 86, false⟩, (uCo (d.take 16 ++ d.drop 16) false), (uCo (r.take 16 ++ r.drop 16) false), some ⟨(slq q q.pc (s1 6 ((d.take 16).length)) (s1 7 ((r.take 16).length)) (Int.tmod q.fl 16) (Int.tmod q.cnt 1099511627776)), 35, false⟩, (uCo (d.take 16) false), (uCo (r.take 16) false)] ⟨cvo, cvo, cvo, cvs 1 hn9, cvs 0 hn9, cvs 3 hn9, cvs 4 hn9, cvo, uC_c 5, uC_c 6, ⟨⟩⟩ ?_
       refine sd_run 20 (sdCp 218 15 #[(stq q q.pc (s1 9 ((d.take 16).length)) (s1 10 ((r.take 16).length)) (Int.tmod q.fl 16) (Int.tmod q.cnt 1099511627776)), (stq q q.pc (s1 6 ((d.take 16).length)) (s1 7 ((r.take 16).length)) (Int.tmod q.fl 16) (Int.tmod q.cnt 1099511627776))] (@keep_t (⟨q.pc, (Int.tmod q.fl 16), q.root, q.vec, q.epc, q.cause, q.addr, (Int.tmod q.cnt 1099511627776), q.su, q.pg, q.ie, q.es, q.ei, q.ha⟩ : Sx) (d.take 16) [] (d.drop 16) (r.take 16) [] (r.drop 16) false false (unk + 1) (unk + 1) (unk + 1) (unk + 1) (by first | omega | (simp; done) | (simp; omega)) (by first | omega | (simp; done) | (simp; omega))) [some 9, some 10, some 6, some 7] ⟨bk_flat (tab uC (d.take 16)) kr (tab_plain uC_pl _) (congrArg (tab uC) (List.append_nil _).symm), bk_flat (tab uC (r.take 16)) kr (tab_plain uC_pl _) (congrArg (tab uC) (List.append_nil _).symm), bk_flat (tab uC (d.take 16 ++ d.drop 16)) kr (tab_plain uC_pl _) (by rfl), bk_flat (tab uC (r.take 16 ++ r.drop 16)) kr (tab_plain uC_pl _) (by rfl), ⟨⟩⟩ ?_)
       rintro v9 k9 ⟨rfl, rfl⟩
       refine ⟨rfl, .bool true, kr, ?_⟩
       refine sd_run 9 (sd_drawP kr ?_)
       refine svp_go 4 ?_
       refine svp_line ?_
       refine sv_run 30 ?_
       refine sv_ask 256 (.bool true) 9 #[] kr kr kr rfl ?_
       refine sv_run 2 ?_
       refine sv_end kr ?_
       refine sd_run 2 ?_
       refine sdY (.bool true) hX [(uCo d true), (uCo r true), (uCo xw true)] i3_ ⟨uC_b, uC_b, uC_b, ⟨⟩⟩ ⟨rfl, rfl⟩
      ·skip
       refine sd_run 2 (sdCp 191 16 #[.pointer (some ⟨5, 0, none⟩), .int .i64 1] (@word_s 0 0 0 0 0 0 0 0 0 0 0 0 0 0 0 0 0 (M3.set 36 7) [] n (unk + 1) n 1 hwn4) [some 5, some 4, none] ⟨brn, uC_b, rfl, ⟨⟩⟩ ?_)
       rintro v9 k9 ⟨rfl, rfl⟩
       refine ⟨rfl, .int .u32 ((M3.set 36 7).getD 1 0), kr, ?_⟩
       refine sd_run 1 (sd_see 192 (.bool true) (see_bool (x := (decide (((M3.set 36 7).getD 1 0) < 16))) kr (decide_eq_true (by omega))) (sd_run 2 (sdCp 195 16 #[.pointer (some ⟨5, 0, none⟩), .int .i64 2] (@word_s 0 0 0 0 0 0 0 0 0 0 0 0 0 0 0 0 0 (M3.set 36 7) [] n (unk + 1) n 2 hwn4) [some 5, some 4, none] ⟨brn, uC_b, rfl, ⟨⟩⟩ ?_)))
       rintro v9 k9 ⟨rfl, rfl⟩
       refine ⟨rfl, .int .u32 ((M3.set 36 7).getD 2 0), kr, ?_⟩
       refine sd_run 1 (sd_see 196 (.bool false) (see_bool (x := (decide (((M3.set 36 7).getD 2 0) ≤ 16))) kr (decide_eq_false (by omega))) (sd_run 13 (sdC 206 14 #[.pointer (some ⟨5, 0, none⟩), (stq q q.pc (s1 6 ((d.take 16).length)) (s1 7 ((r.take 16).length)) (Int.tmod q.fl 16) (Int.tmod q.cnt 1099511627776))] (@eget_no 0 0 0 0 0 0 0 0 0 0 0 0 0 0 0 0 0 (M3.set 36 7) [] n (unk + 1) n (⟨q.pc, (Int.tmod q.fl 16), q.root, q.vec, q.epc, q.cause, q.addr, (Int.tmod q.cnt 1099511627776), q.su, q.pg, q.ie, q.es, q.ei, q.ha⟩ : Sx) (d.take 16) (d.drop 16) (r.take 16) (r.drop 16) false (unk + 1) (unk + 1) hwn4 (by first | omega | (simp; done) | (simp; omega)) (by first | omega | (simp; done) | (simp; omega)) hM4 (by omega) (fun h => by omega)) [some 5, some 4, none, some 6, some 7] ⟨brn, uC_b, rfl, bk_flat (tab uC (d.take 16 ++ d.drop 16)) kr (tab_plain uC_pl _) (by rfl), bk_flat (tab uC (r.take 16 ++ r.drop 16)) kr (tab_plain uC_pl _) (by rfl), ⟨⟩⟩ ?_)))
       rintro hn9 v9 k9 ⟨rfl, rfl⟩
       refine mkG (.tuple #[(stq q q.pc (s1 9 ((d.take 16).length)) (s1 10 ((r.take 16).length)) (Int.tmod q.fl 16) (Int.tmod q.cnt 1099511627776)), .bool false]) [(uCo d true), (uCo r true), (uCo xw true), none, (uCo (M3.set 36 7) false), some ⟨[Value.int .u64 0, .int .u64 0, .int .u64 0, .int .u64 0, .int .u64 0, .int .u64 0, .int .u64 0, .int .u64 0, .int .u64 0, .int .u64 0, .int .u64 0, .int .u64 0, .int .u64 0, .int .u64 0, .int .u64 0, .int .u64 0, .slice (some ⟨4, 0, none⟩) n n, .slice none 0 0, .int .i64 0], 86, false⟩, (uCo (d.take 16 ++ d.drop 16) false), (uCo (r.take 16 ++ r.drop 16) false), some ⟨(slq q q.pc (s1 6 ((d.take 16).length)) (s1 7 ((r.take 16).length)) (Int.tmod q.fl 16) (Int.tmod q.cnt 1099511627776)), 35, false⟩, (uCo (d.take 16) false), (uCo (r.take 16) false)] ⟨cvo, cvo, cvo, cvs 1 hn9, cvs 0 hn9, cvs 3 hn9, cvs 4 hn9, cvo, uC_c 5, uC_c 6, ⟨⟩⟩ ?_
       refine sd_run 20 (sdCp 218 15 #[(stq q q.pc (s1 9 ((d.take 16).length)) (s1 10 ((r.take 16).length)) (Int.tmod q.fl 16) (Int.tmod q.cnt 1099511627776)), (stq q q.pc (s1 6 ((d.take 16).length)) (s1 7 ((r.take 16).length)) (Int.tmod q.fl 16) (Int.tmod q.cnt 1099511627776))] (@keep_t (⟨q.pc, (Int.tmod q.fl 16), q.root, q.vec, q.epc, q.cause, q.addr, (Int.tmod q.cnt 1099511627776), q.su, q.pg, q.ie, q.es, q.ei, q.ha⟩ : Sx) (d.take 16) [] (d.drop 16) (r.take 16) [] (r.drop 16) false false (unk + 1) (unk + 1) (unk + 1) (unk + 1) (by first | omega | (simp; done) | (simp; omega)) (by first | omega | (simp; done) | (simp; omega))) [some 9, some 10, some 6, some 7] ⟨bk_flat (tab uC (d.take 16)) kr (tab_plain uC_pl _) (congrArg (tab uC) (List.append_nil _).symm), bk_flat (tab uC (r.take 16)) kr (tab_plain uC_pl _) (congrArg (tab uC) (List.append_nil _).symm), bk_flat (tab uC (d.take 16 ++ d.drop 16)) kr (tab_plain uC_pl _) (by rfl), bk_flat (tab uC (r.take 16 ++ r.drop 16)) kr (tab_plain uC_pl _) (by rfl), ⟨⟩⟩ ?_)
       rintro v9 k9 ⟨rfl, rfl⟩
       refine ⟨rfl, .bool true, kr, ?_⟩
       refine sd_run 9 (sd_drawP kr ?_)
       refine svp_go 4 ?_
       refine svp_line ?_
       refine sv_run 30 ?_
       refine sv_ask 256 (.bool true) 9 #[] kr kr kr rfl ?_
       refine sv_run 2 ?_
       refine sv_end kr ?_
       refine sd_run 2 ?_
       refine sdY (.bool true) hX [(uCo d true), (uCo r true), (uCo xw true)] i3_ ⟨uC_b, uC_b, uC_b, ⟨⟩⟩ ⟨rfl, rfl⟩
      ·skip
       refine sd_run 2 (sdCp 191 16 #[.pointer (some ⟨5, 0, none⟩), .int .i64 1] (@word_s 0 0 0 0 0 0 0 0 0 0 0 0 0 0 0 0 0 (M3.set 36 7) [] n (unk + 1) n 1 hwn4) [some 5, some 4, none] ⟨brn, uC_b, rfl, ⟨⟩⟩ ?_)
       rintro v9 k9 ⟨rfl, rfl⟩
       refine ⟨rfl, .int .u32 ((M3.set 36 7).getD 1 0), kr, ?_⟩
       refine sd_run 1 (sd_see 192 (.bool true) (see_bool (x := (decide (((M3.set 36 7).getD 1 0) < 16))) kr (decide_eq_true (by omega))) (sd_run 2 (sdCp 195 16 #[.pointer (some ⟨5, 0, none⟩), .int .i64 2] (@word_s 0 0 0 0 0 0 0 0 0 0 0 0 0 0 0 0 0 (M3.set 36 7) [] n (unk + 1) n 2 hwn4) [some 5, some 4, none] ⟨brn, uC_b, rfl, ⟨⟩⟩ ?_)))
       rintro v9 k9 ⟨rfl, rfl⟩
       refine ⟨rfl, .int .u32 ((M3.set 36 7).getD 2 0), kr, ?_⟩
       refine sd_run 1 (sd_see 196 (.bool true) (see_bool (x := (decide (((M3.set 36 7).getD 2 0) ≤ 16))) kr (decide_eq_true (by omega))) (sd_run 3 (sdCp 200 16 #[.pointer (some ⟨5, 0, none⟩), .int .i64 3] (@word_s 0 0 0 0 0 0 0 0 0 0 0 0 0 0 0 0 0 (M3.set 36 7) [] n (unk + 1) n 3 hwn4) [some 5, some 4, none] ⟨brn, uC_b, rfl, ⟨⟩⟩ ?_)))
       rintro v9 k9 ⟨rfl, rfl⟩
       refine ⟨rfl, .int .u32 ((M3.set 36 7).getD 3 0), kr, ?_⟩
       refine sd_run 1 (sd_see 201 (.bool false) (see_bool (x := (decide (((M3.set 36 7).getD 3 0) ≤ 16))) kr (decide_eq_false (by omega))) (sd_run 8 (sdC 206 14 #[.pointer (some ⟨5, 0, none⟩), (stq q q.pc (s1 6 ((d.take 16).length)) (s1 7 ((r.take 16).length)) (Int.tmod q.fl 16) (Int.tmod q.cnt 1099511627776))] (@eget_no 0 0 0 0 0 0 0 0 0 0 0 0 0 0 0 0 0 (M3.set 36 7) [] n (unk + 1) n (⟨q.pc, (Int.tmod q.fl 16), q.root, q.vec, q.epc, q.cause, q.addr, (Int.tmod q.cnt 1099511627776), q.su, q.pg, q.ie, q.es, q.ei, q.ha⟩ : Sx) (d.take 16) (d.drop 16) (r.take 16) (r.drop 16) false (unk + 1) (unk + 1) hwn4 (by first | omega | (simp; done) | (simp; omega)) (by first | omega | (simp; done) | (simp; omega)) hM4 (by omega) (fun h => by omega)) [some 5, some 4, none, some 6, some 7] ⟨brn, uC_b, rfl, bk_flat (tab uC (d.take 16 ++ d.drop 16)) kr (tab_plain uC_pl _) (by rfl), bk_flat (tab uC (r.take 16 ++ r.drop 16)) kr (tab_plain uC_pl _) (by rfl), ⟨⟩⟩ ?_)))
       rintro hn9 v9 k9 ⟨rfl, rfl⟩
       refine mkG (.tuple #[(stq q q.pc (s1 9 ((d.take 16).length)) (s1 10 ((r.take 16).length)) (Int.tmod q.fl 16) (Int.tmod q.cnt 1099511627776)), .bool false]) [(uCo d true), (uCo r true), (uCo xw true), none, (uCo (M3.set 36 7) false), some ⟨[Value.int .u64 0, .int .u64 0, .int .u64 0, .int .u64 0, .int .u64 0, .int .u64 0, .int .u64 0, .int .u64 0, .int .u64 0, .int .u64 0, .int .u64 0, .int .u64 0, .int .u64 0, .int .u64 0, .int .u64 0, .int .u64 0, .slice (some ⟨4, 0, none⟩) n n, .slice none 0 0, .int .i64 0], 86, false⟩, (uCo (d.take 16 ++ d.drop 16) false), (uCo (r.take 16 ++ r.drop 16) false), some ⟨(slq q q.pc (s1 6 ((d.take 16).length)) (s1 7 ((r.take 16).length)) (Int.tmod q.fl 16) (Int.tmod q.cnt 1099511627776)), 35, false⟩, (uCo (d.take 16) false), (uCo (r.take 16) false)] ⟨cvo, cvo, cvo, cvs 1 hn9, cvs 0 hn9, cvs 3 hn9, cvs 4 hn9, cvo, uC_c 5, uC_c 6, ⟨⟩⟩ ?_
       refine sd_run 20 (sdCp 218 15 #[(stq q q.pc (s1 9 ((d.take 16).length)) (s1 10 ((r.take 16).length)) (Int.tmod q.fl 16) (Int.tmod q.cnt 1099511627776)), (stq q q.pc (s1 6 ((d.take 16).length)) (s1 7 ((r.take 16).length)) (Int.tmod q.fl 16) (Int.tmod q.cnt 1099511627776))] (@keep_t (⟨q.pc, (Int.tmod q.fl 16), q.root, q.vec, q.epc, q.cause, q.addr, (Int.tmod q.cnt 1099511627776), q.su, q.pg, q.ie, q.es, q.ei, q.ha⟩ : Sx) (d.take 16) [] (d.drop 16) (r.take 16) [] (r.drop 16) false false (unk + 1) (unk + 1) (unk + 1) (unk + 1) (by first | omega | (simp; done) | (simp; omega)) (by first | omega | (simp; done) | (simp; omega))) [some 9, some 10, some 6, some 7] ⟨bk_flat (tab uC (d.take 16)) kr (tab_plain uC_pl _) (congrArg (tab uC) (List.append_nil _).symm), bk_flat (tab uC (r.take 16)) kr (tab_plain uC_pl _) (congrArg (tab uC) (List.append_nil _).symm), bk_flat (tab uC (d.take 16 ++ d.drop 16)) kr (tab_plain uC_pl _) (by rfl), bk_flat (tab uC (r.take 16 ++ r.drop 16)) kr (tab_plain uC_pl _) (by rfl), ⟨⟩⟩ ?_)
       rintro v9 k9 ⟨rfl, rfl⟩
       refine ⟨rfl, .bool true, kr, ?_⟩
       refine sd_run 9 (sd_drawP kr ?_)
       refine svp_go 4 ?_
       refine svp_line ?_
       refine sv_run 30 ?_
       refine sv_ask 256 (.bool true) 9 #[] kr kr kr rfl ?_
       refine sv_run 2 ?_
       refine sv_end kr ?_
       refine sd_run 2 ?_
       refine sdY (.bool true) hX [(uCo d true), (uCo r true), (uCo xw true)] i3_ ⟨uC_b, uC_b, uC_b, ⟨⟩⟩ ⟨rfl, rfl⟩
  ·skip
   refine sd_run 3 (sdCp 54 12 #[.pointer (some ⟨5, 0, none⟩), (stq q q.pc (s1 0 d.length) (s1 1 r.length) q.fl q.cnt)] (@eput_no 0 0 0 0 0 0 0 0 0 0 0 0 0 0 0 0 0 (List.replicate n (0 : Int)) [] n (unk + 1) n q d [] r [] true (unk + 1) (unk + 1) (by omega) (fun h => hn6 h.1)) [some 5, some 4, none, some 0, some 1] ⟨brn, uC_b, rfl, bk_flat (tab uC d) kr (tab_plain uC_pl _) (congrArg (tab uC) (List.append_nil _).symm), bk_flat (tab uC r) kr (tab_plain uC_pl _) (congrArg (tab uC) (List.append_nil _).symm), ⟨⟩⟩ ?_)
   rintro v9 k9 ⟨rfl, rfl⟩
   refine ⟨rfl, .bool false, kr, ?_⟩
   refine sd_run 2 (sdN 56 (n : Int) 256 (by omega) kr (sd_run 12 (sdC 62 13 #[(stq q q.pc (s1 0 d.length) (s1 1 r.length) q.fl q.cnt)] (@trim_s q d [] r [] true hdb hrb) i2_ ⟨bk_flat (tab uC d) kr (tab_plain uC_pl _) (congrArg (tab uC) (List.append_nil _).symm), bk_flat (tab uC r) kr (tab_plain uC_pl _) (congrArg (tab uC) (List.append_nil _).symm), ⟨⟩⟩ ?_)))
   rintro hn9 v9 k9 ⟨rfl, rfl⟩
   refine mkG (stq q q.pc (s1 6 ((d.take 16).length)) (s1 7 ((r.take 16).length)) (Int.tmod q.fl 16) (Int.tmod q.cnt 1099511627776)) [(uCo d true), (uCo r true), (uCo xw true), some ⟨(slq q q.pc (s1 0 d.length) (s1 1 r.length) q.fl q.cnt), 35, false⟩, (uCo (List.replicate n (0 : Int)) false), some ⟨[Value.int .u64 0, .int .u64 0, .int .u64 0, .int .u64 0, .int .u64 0, .int .u64 0, .int .u64 0, .int .u64 0, .int .u64 0, .int .u64 0, .int .u64 0, .int .u64 0, .int .u64 0, .int .u64 0, .int .u64 0, .int .u64 0, .slice (some ⟨4, 0, none⟩) n n, .slice none 0 0, .int .i64 0], 86, false⟩, (uCo (d.take 16 ++ d.drop 16) false), (uCo (r.take 16 ++ r.drop 16) false)] ⟨cvs 0 hn9, cvs 1 hn9, cvo, cvo, cvo, cvo, uC_c 2, uC_c 3, ⟨⟩⟩ ?_
   refine sd_run 9 (sdCp 65 12 #[.pointer (some ⟨5, 0, none⟩), (stq q q.pc (s1 6 ((d.take 16).length)) (s1 7 ((r.take 16).length)) (Int.tmod q.fl 16) (Int.tmod q.cnt 1099511627776))] (@eput_no 0 0 0 0 0 0 0 0 0 0 0 0 0 0 0 0 0 (List.replicate n (0 : Int)) [] n (unk + 1) n (⟨q.pc, (Int.tmod q.fl 16), q.root, q.vec, q.epc, q.cause, q.addr, (Int.tmod q.cnt 1099511627776), q.su, q.pg, q.ie, q.es, q.ei, q.ha⟩ : Sx) (d.take 16) (d.drop 16) (r.take 16) (r.drop 16) false (unk + 1) (unk + 1) (by omega) (fun h => hn6 h.1)) [some 5, some 4, none, some 6, some 7] ⟨brn, uC_b, rfl, bk_flat (tab uC (d.take 16 ++ d.drop 16)) kr (tab_plain uC_pl _) (by rfl), bk_flat (tab uC (r.take 16 ++ r.drop 16)) kr (tab_plain uC_pl _) (by rfl), ⟨⟩⟩ ?_)
   rintro v9 k9 ⟨rfl, rfl⟩
   refine ⟨rfl, .bool false, kr, ?_⟩
   refine sd_run 2 (sdN 67 (n : Int) 256 (by omega) kr (sd_run 11 (sdP 70 (n : Int) 256 (by omega) kr (sd_run 7 (sdC 74 14 #[.pointer (some ⟨5, 0, none⟩), (stq q q.pc (s1 6 ((d.take 16).length)) (s1 7 ((r.take 16).length)) (Int.tmod q.fl 16) (Int.tmod q.cnt 1099511627776))] (@eget_no 0 0 0 0 0 0 0 0 0 0 0 0 0 0 0 0 0 (List.replicate n (0 : Int)) [] n (unk + 1) n (⟨q.pc, (Int.tmod q.fl 16), q.root, q.vec, q.epc, q.cause, q.addr, (Int.tmod q.cnt 1099511627776), q.su, q.pg, q.ie, q.es, q.ei, q.ha⟩ : Sx) (d.take 16) (d.drop 16) (r.take 16) (r.drop 16) false (unk + 1) (unk + 1) (by simp) (by first | omega | (simp; done) | (simp; omega)) (by first | omega | (simp; done) | (simp; omega)) (W32.rep n) (by omega) (fun h => hn6 h.1)) [some 5, some 4, none, some 6, some 7] ⟨brn, uC_b, rfl, bk_flat (tab uC (d.take 16 ++ d.drop 16)) kr (tab_plain uC_pl _) (by rfl), bk_flat (tab uC (r.take 16 ++ r.drop 16)) kr (tab_plain uC_pl _) (by rfl), ⟨⟩⟩ ?_)))))
   rintro hn9 v9 k9 ⟨rfl, rfl⟩
   refine mkG (.tuple #[(stq q q.pc (s1 9 ((d.take 16).length)) (s1 10 ((r.take 16).length)) (Int.tmod q.fl 16) (Int.tmod q.cnt 1099511627776)), .bool false]) [(uCo d true), (uCo r true), (uCo xw true), some ⟨(slq q q.pc (s1 0 d.length) (s1 1 r.length) q.fl q.cnt), 35, false⟩, (uCo (List.replicate n (0 : Int)) false), some ⟨[Value.int .u64 0, .int .u64 0, .int .u64 0, .int .u64 0, .int .u64 0, .int .u64 0, .int .u64 0, .int .u64 0, .int .u64 0, .int .u64 0, .int .u64 0, .int .u64 0, .int .u64 0, .int .u64 0, .int .u64 0, .int .u64 0, .slice (some ⟨4, 0, none⟩) n n, .slice none 0 0, .int .i64 0], 86, false⟩, (uCo (d.take 16 ++ d.drop 16) false), (uCo (r.take 16 ++ r.drop 16) false), some ⟨(slq q q.pc (s1 6 ((d.take 16).length)) (s1 7 ((r.take 16).length)) (Int.tmod q.fl 16) (Int.tmod q.cnt 1099511627776)), 35, false⟩, (uCo (d.take 16) false), (uCo (r.take 16) false)] ⟨cvo, cvo, cvo, cvo, cvs 1 hn9, cvs 0 hn9, cvs 3 hn9, cvs 4 hn9, cvo, uC_c 5, uC_c 6, ⟨⟩⟩ ?_
   refine sd_run 13 (sd_ask 80 (.bool true) 9 #[] kr kr kr rfl (sd_run 6 ?_))
   refine sdY (.bool true) hX [(uCo d true), (uCo r true), (uCo xw true)] i3_ ⟨uC_b, uC_b, uC_b, ⟨⟩⟩ ⟨rfl, rfl⟩
end Ls
end Go.Proofs.Ytihacfclecanjaa
