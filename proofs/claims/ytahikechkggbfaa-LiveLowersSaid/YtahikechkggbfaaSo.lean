/- Chapter 20: sweep. -/
import Derived.Test.YtahikechkggbfaaSn
namespace Go.Proofs.Ytahikechkggbfaa
open Go Go.Ev Go.RowKit
set_option linter.unusedVariables false
set_option linter.unusedSimpArgs false
set_option maxRecDepth 100000
namespace Ls
noncomputable def f29b : Code := Try.f29.body.getD .skip
theorem f29_body : Try.f29.body = some f29b := by kernel_rfl
theorem f29_fn : T8.fn 29 = some Try.f29 := by kernel_rfl
set_option maxHeartbeats 4000000 in
theorem sweep_s {c : List II} {od oj rd rj : List Int} {nd nr hd hr fl nx tg br tk ct : Int} (hR : RightP c od rd nd nr hd hr fl tg br ct (c.length : Int)) (hol : od.length < 100000) (hrl : rd.length < 100000) : SCall Try.prog T8 29 #[.agg #[.slice (some ⟨0, 0, none⟩) c.length (unk + 5), .int .i64 nd, .int .i64 nr, .int .i64 hd, .int .i64 hr, .slice (some ⟨1, 0, none⟩) od.length (unk + 1), .slice (some ⟨2, 0, none⟩) rd.length (unk + 1), .int .i64 fl, .int .u32 nx, .int .i64 tg, .int .i64 br, .int .u32 tk, .int .i64 ct, .int .i64 ((c.length : Nat) : Int)]] (hq [some ⟨(tab iiC c), 50, false⟩, some ⟨(tab inC (od ++ oj)), 3, false⟩, some ⟨(tab inC (rd ++ rj)), 3, false⟩]) fun v h => ∃ (f1 t1 : Int), f1 = movO (swP c od rd fl tg) fl ∧ t1 = movO (swP c od rd fl tg) tg ∧ v = .agg #[.slice (some ⟨3, 0, none⟩) ((swC c od rd fl tg).length) (unk + 5), .int .i64 nd, .int .i64 nr, .int .i64 hd, .int .i64 hr, .slice (some ⟨4, 0, none⟩) ((movL (swP c od rd fl tg) od).length) (unk + 1), .slice (some ⟨5, 0, none⟩) ((movL (swP c od rd fl tg) rd).length) (unk + 1), .int .i64 f1, .int .u32 nx, .int .i64 t1, .int .i64 br, .int .u32 tk, .int .i64 ct, .int .i64 (((swC c od rd fl tg).length : Nat) : Int)] ∧ h = hq [some ⟨(tab iiC c), 50, false⟩, some ⟨(tab inC (od ++ oj)), 3, false⟩, some ⟨(tab inC (rd ++ rj)), 3, false⟩, some ⟨(tab iiC (swC c od rd fl tg)), 50, false⟩, some ⟨(tab inC (movL (swP c od rd fl tg) od)), 3, false⟩, some ⟨(tab inC (movL (swP c od rd fl tg) rd)), 3, false⟩] := by
  have hlen := hR.len
  have hod : ∀ x ∈ od, 0 ≤ x ∧ x < ((c.length : Nat) : Int) := fun x hx => by obtain ⟨k, hk⟩ := List.mem_iff_getElem?.1 hx; exact valB_iff.1 (hR.od_ k x hk)
  have hrd : ∀ x ∈ rd, 0 ≤ x ∧ x < ((c.length : Nat) : Int) := fun x hx => by obtain ⟨k, hk⟩ := List.mem_iff_getElem?.1 hx; exact valB_iff.1 (hR.rd_ k x hk)
  have hfl : fl = -1 ∨ (0 ≤ fl ∧ fl < ((c.length : Nat) : Int)) := hR.fl_.imp id valB_iff.1
  have htg : tg = -1 ∨ (0 ≤ tg ∧ tg < ((c.length : Nat) : Int)) := hR.tg_.imp id valB_iff.1
  have hft : ∀ x ∈ [fl, tg], x = -1 ∨ (0 ≤ x ∧ x < ((c.length : Nat) : Int)) := fun x hx => by simp at hx; rcases hx with rfl | rfl <;> assumption
  refine scall_sd 148 _ 3 kr f29_fn f29_body rfl rfl rfl fun X hX => ?_
  refine sd_run 10 ?_
  refine sd_make 14 48 4 1 c.length 5 .i64 .i64 [Value.bool false] (tab boC (List.replicate c.length false)) kr kr kr kr (by omega) (by omega) kr (tab_one (enc := boC) (a := false) rfl _) ?_
  refine sd_run 15 ?_
  refine sd_call 19 39 #[.slice (some ⟨1, 0, none⟩) od.length (unk + 1), .pointer (some ⟨6, 0, none⟩)] (mark_s (kc := (unk + 1)) (l := od) (j := oj) (m := c.length) (u := (List.replicate c.length false)) (by simp) (by omega) hol (fun x hx => .inr (hod x hx))) (emOf [some 6, some 5, some 1]) kr kr kr (hn_of 0 kr ⟨bk_ren kr kr, bk_flat (tab boC (List.replicate c.length false)) kr (tab_plain boC_pl _) rfl, bk_flat (tab inC (od ++ oj)) kr (tab_plain inC_pl _) rfl, True.intro⟩) (rnG_sound rn2_sound _ _ kr) ?_
  rintro v9 k9 ⟨rfl, rfl⟩
  refine ⟨.tuple #[], hq [some ⟨(tab iiC c), 50, false⟩, some ⟨(tab inC (od ++ oj)), 3, false⟩, some ⟨(tab inC (rd ++ rj)), 3, false⟩, some ⟨[Value.slice (some ⟨0, 0, none⟩) c.length (unk + 5), .int .i64 nd, .int .i64 nr, .int .i64 hd, .int .i64 hr, .slice (some ⟨1, 0, none⟩) od.length (unk + 1), .slice (some ⟨2, 0, none⟩) rd.length (unk + 1), .int .i64 fl, .int .u32 nx, .int .i64 tg, .int .i64 br, .int .u32 tk, .int .i64 ct, .int .i64 ((c.length : Nat) : Int)], 29, false⟩, some ⟨[Value.slice none 0 0, .int .i64 0, .int .i64 0, .int .i64 0, .int .i64 0, .slice none 0 0, .slice none 0 0, .int .i64 0, .int .u32 0, .int .i64 0, .int .i64 0, .int .u32 0, .int .i64 0, .int .i64 0], 29, false⟩, some ⟨(tab boC (outS (List.replicate c.length false) od)), 4, false⟩, some ⟨[Value.slice (some ⟨5, 0, none⟩) c.length c.length], 48, false⟩], glue_of kr kr ⟨cov_old kr kr, cov_same 2 (hn_of 0 kr ⟨bk_ren kr kr, bk_flat (tab boC (List.replicate c.length false)) kr (tab_plain boC_pl _) rfl, bk_flat (tab inC (od ++ oj)) kr (tab_plain inC_pl _) rfl, True.intro⟩) kr kr kr kr kr, cov_old kr kr, cov_old kr kr, cov_old kr kr, cov_flat 1 kr kr (tab_plain boC_pl _), cov_same 0 (hn_of 0 kr ⟨bk_ren kr kr, bk_flat (tab boC (List.replicate c.length false)) kr (tab_plain boC_pl _) rfl, bk_flat (tab inC (od ++ oj)) kr (tab_plain inC_pl _) rfl, True.intro⟩) kr kr kr kr kr, True.intro⟩, rn2_sound _ _ kr, ?_⟩
  refine sd_run 7 ?_
  refine sd_call 23 39 #[.slice (some ⟨2, 0, none⟩) rd.length (unk + 1), .pointer (some ⟨6, 0, none⟩)] (mark_s (kc := (unk + 1)) (l := rd) (j := rj) (m := c.length) (u := outS (List.replicate c.length false) od) (by simp) (by omega) hrl (fun x hx => .inr (hrd x hx))) (emOf [some 6, some 5, some 2]) kr kr kr (hn_of 0 kr ⟨bk_ren kr kr, bk_flat (tab boC (outS (List.replicate c.length false) od)) kr (tab_plain boC_pl _) rfl, bk_flat (tab inC (rd ++ rj)) kr (tab_plain inC_pl _) rfl, True.intro⟩) (rnG_sound rn2_sound _ _ kr) ?_
  rintro v9 k9 ⟨rfl, rfl⟩
  refine ⟨.tuple #[], hq [some ⟨(tab iiC c), 50, false⟩, some ⟨(tab inC (od ++ oj)), 3, false⟩, some ⟨(tab inC (rd ++ rj)), 3, false⟩, some ⟨[Value.slice (some ⟨0, 0, none⟩) c.length (unk + 5), .int .i64 nd, .int .i64 nr, .int .i64 hd, .int .i64 hr, .slice (some ⟨1, 0, none⟩) od.length (unk + 1), .slice (some ⟨2, 0, none⟩) rd.length (unk + 1), .int .i64 fl, .int .u32 nx, .int .i64 tg, .int .i64 br, .int .u32 tk, .int .i64 ct, .int .i64 ((c.length : Nat) : Int)], 29, false⟩, some ⟨[Value.slice none 0 0, .int .i64 0, .int .i64 0, .int .i64 0, .int .i64 0, .slice none 0 0, .slice none 0 0, .int .i64 0, .int .u32 0, .int .i64 0, .int .i64 0, .int .u32 0, .int .i64 0, .int .i64 0], 29, false⟩, some ⟨(tab boC (outS (outS (List.replicate c.length false) od) rd)), 4, false⟩, some ⟨[Value.slice (some ⟨5, 0, none⟩) c.length c.length], 48, false⟩], glue_of kr kr ⟨cov_old kr kr, cov_old kr kr, cov_same 2 (hn_of 0 kr ⟨bk_ren kr kr, bk_flat (tab boC (outS (List.replicate c.length false) od)) kr (tab_plain boC_pl _) rfl, bk_flat (tab inC (rd ++ rj)) kr (tab_plain inC_pl _) rfl, True.intro⟩) kr kr kr kr kr, cov_old kr kr, cov_old kr kr, cov_flat 1 kr kr (tab_plain boC_pl _), cov_same 0 (hn_of 0 kr ⟨bk_ren kr kr, bk_flat (tab boC (outS (List.replicate c.length false) od)) kr (tab_plain boC_pl _) rfl, bk_flat (tab inC (rd ++ rj)) kr (tab_plain inC_pl _) rfl, True.intro⟩) kr kr kr kr kr, True.intro⟩, rn2_sound _ _ kr, ?_⟩
  refine sd_run 10 ?_
  refine sd_call 30 39 #[.slice (some ⟨7, 0, none⟩) 2 2, .pointer (some ⟨6, 0, none⟩)] (mark_s (kc := 2) (l := [fl, tg]) (j := []) (m := c.length) (u := outS (outS (List.replicate c.length false) od) rd) (by simp) (by omega) (by simp) hft) (emOf [some 6, some 5, some 7]) kr kr kr (hn_of 0 kr ⟨bk_ren kr kr, bk_flat (tab boC (outS (outS (List.replicate c.length false) od) rd)) kr (tab_plain boC_pl _) rfl, bk_flat [Value.int .i64 fl, .int .i64 tg] kr (tab_plain inC_pl _) rfl, True.intro⟩) (rnG_sound rn2_sound _ _ kr) ?_
  rintro v9 k9 ⟨rfl, rfl⟩
  refine ⟨.tuple #[], hq [some ⟨(tab iiC c), 50, false⟩, some ⟨(tab inC (od ++ oj)), 3, false⟩, some ⟨(tab inC (rd ++ rj)), 3, false⟩, some ⟨[Value.slice (some ⟨0, 0, none⟩) c.length (unk + 5), .int .i64 nd, .int .i64 nr, .int .i64 hd, .int .i64 hr, .slice (some ⟨1, 0, none⟩) od.length (unk + 1), .slice (some ⟨2, 0, none⟩) rd.length (unk + 1), .int .i64 fl, .int .u32 nx, .int .i64 tg, .int .i64 br, .int .u32 tk, .int .i64 ct, .int .i64 ((c.length : Nat) : Int)], 29, false⟩, some ⟨[Value.slice none 0 0, .int .i64 0, .int .i64 0, .int .i64 0, .int .i64 0, .slice none 0 0, .slice none 0 0, .int .i64 0, .int .u32 0, .int .i64 0, .int .i64 0, .int .u32 0, .int .i64 0, .int .i64 0], 29, false⟩, some ⟨(tab boC (outS (outS (outS (List.replicate c.length false) od) rd) ([fl, tg]))), 4, false⟩, some ⟨[Value.slice (some ⟨5, 0, none⟩) c.length c.length], 48, false⟩, some ⟨[Value.int .i64 fl, .int .i64 tg], 3, false⟩], glue_of kr kr ⟨cov_old kr kr, cov_old kr kr, cov_old kr kr, cov_old kr kr, cov_old kr kr, cov_flat 1 kr kr (tab_plain boC_pl _), cov_same 0 (hn_of 0 kr ⟨bk_ren kr kr, bk_flat (tab boC (outS (outS (List.replicate c.length false) od) rd)) kr (tab_plain boC_pl _) rfl, bk_flat [Value.int .i64 fl, .int .i64 tg] kr (tab_plain inC_pl _) rfl, True.intro⟩) kr kr kr kr kr, cov_same 2 (hn_of 0 kr ⟨bk_ren kr kr, bk_flat (tab boC (outS (outS (List.replicate c.length false) od) rd)) kr (tab_plain boC_pl _) rfl, bk_flat [Value.int .i64 fl, .int .i64 tg] kr (tab_plain inC_pl _) rfl, True.intro⟩) kr kr kr kr kr, True.intro⟩, rn2_sound _ _ kr, ?_⟩
  refine sd_run 8 ?_
  refine sd_see 33 (.int .i64 (((c.length : Nat) : Int) - 1)) (see_int (x := (IntKind.i64.wrap (((c.length : Nat) : Int) - 1))) kr (w64 (by omega) (by omega) (by omega))) ?_
  refine sd_run 4 ?_
  refine sd_loop 148 (cl (cl (cr (cl (cr (cr (cr (cr (cr (cr f29b)))))))))) [.blk 0, .next (cr (cr (cr (cr (cr (cr (cr f29b)))))))] kr kr kr (fun m9 s9 => ∃ (k : Nat), m9 = 1 + k ∧ (k ≤ c.length) ∧ s9 = ⟨tmL [(1, .pointer (some ⟨3, 0, none⟩)), (2, .pointer (some ⟨4, 0, none⟩)), (3, .pointer (some ⟨6, 0, none⟩)), (4, .func (.func 39) #[] #[.pointer (some ⟨6, 0, none⟩)]), (5, .int .i64 (((k : Nat) : Int) - 1))], hq [some ⟨(tab iiC c), 50, false⟩, some ⟨(tab inC (od ++ oj)), 3, false⟩, some ⟨(tab inC (rd ++ rj)), 3, false⟩, some ⟨[Value.slice (some ⟨0, 0, none⟩) c.length (unk + 5), .int .i64 nd, .int .i64 nr, .int .i64 hd, .int .i64 hr, .slice (some ⟨1, 0, none⟩) od.length (unk + 1), .slice (some ⟨2, 0, none⟩) rd.length (unk + 1), .int .i64 fl, .int .u32 nx, .int .i64 tg, .int .i64 br, .int .u32 tk, .int .i64 ct, .int .i64 ((c.length : Nat) : Int)], 29, false⟩, some ⟨[Value.slice none 0 0, .int .i64 0, .int .i64 0, .int .i64 0, .int .i64 0, .slice none 0 0, .slice none 0 0, .int .i64 0, .int .u32 0, .int .i64 0, .int .i64 0, .int .u32 0, .int .i64 0, .int .i64 0], 29, false⟩, some ⟨(tab boC (bkU c (outS (outS (outS (List.replicate c.length false) od) rd) ([fl, tg])) (c.length - k))), 4, false⟩, some ⟨[Value.slice (some ⟨5, 0, none⟩) c.length c.length], 48, false⟩]⟩) (1 + c.length) _ (emOf [some 0, some 1, some 2, some 3, some 4, some 5, some 6]) hX ⟨c.length, rfl, (by omega), rfl⟩ ⟨sub_of kr kr ⟨bk_flat (tab iiC c) kr (tab_plain iiC_pl _) rfl, bk_flat (tab inC (od ++ oj)) kr (tab_plain inC_pl _) rfl, bk_flat (tab inC (rd ++ rj)) kr (tab_plain inC_pl _) rfl, bk_ren kr kr, bk_ren kr kr, bk_flat (tab boC (outS (outS (outS (List.replicate c.length false) od) rd) ([fl, tg]))) kr (tab_plain boC_pl _) (congrArg (tab boC) (by rw [Nat.sub_self]; rfl)), bk_ren kr kr, True.intro⟩, te_of kr kr⟩ kr ?_
  rintro m9 s9 ⟨k, rfl, i1_0, rfl⟩ R1_ hR1_
  by_cases hk0 : k = 0
  · skip
    subst hk0
    refine sd_run 5 ?_
    refine sd_see 35 (.bool false) (see_bool kr ((decide_eq_false (by omega)) : ((decide ((((0 : Nat) : Int) - 1) ≥ 0))) = false)) ?_
    refine sd_run 12 ?_
    refine sd_make 66 22 3 8 c.length 7 .i64 .i64 [Value.int .i64 0] (tab inC (List.replicate c.length 0)) kr kr kr kr (by omega) (by omega) kr (tab_one (enc := inC) (a := 0) rfl _) ?_
    refine sd_run 19 ?_
    obtain ⟨uu, huu⟩ : ∃ x, x = swU c od rd fl tg := ⟨_, rfl⟩
    have hul : uu.length = c.length := by rw [huu]; simp [swU]
    refine sd_loop 148 (cl (cl (cr (cl (cr (cr (cr (cr (cr (cr (cr (cr (cr f29b))))))))))))) [.blk 2, .next (cr (cr (cr (cr (cr (cr (cr (cr (cr (cr f29b))))))))))] kr kr kr (fun m9 s9 => ∃ (k : Nat), m9 = c.length - k ∧ (k ≤ c.length) ∧ s9 = ⟨tmL [(1, .pointer (some ⟨3, 0, none⟩)), (2, .pointer (some ⟨4, 0, none⟩)), (3, .pointer (some ⟨6, 0, none⟩)), (7, .pointer (some ⟨8, 0, none⟩)), (8, .slice (some ⟨9, 0, none⟩) ((plS c uu k).2.length) (unk + 5)), (68, .slice (some ⟨0, 0, none⟩) c.length (unk + 5)), (69, .int .i64 ((c.length : Nat) : Int)), (70, .int .i64 ((k : Nat) : Int))], hq [some ⟨(tab iiC c), 50, false⟩, some ⟨(tab inC (od ++ oj)), 3, false⟩, some ⟨(tab inC (rd ++ rj)), 3, false⟩, some ⟨[Value.slice (some ⟨0, 0, none⟩) c.length (unk + 5), .int .i64 nd, .int .i64 nr, .int .i64 hd, .int .i64 hr, .slice (some ⟨1, 0, none⟩) od.length (unk + 1), .slice (some ⟨2, 0, none⟩) rd.length (unk + 1), .int .i64 fl, .int .u32 nx, .int .i64 tg, .int .i64 br, .int .u32 tk, .int .i64 ct, .int .i64 ((c.length : Nat) : Int)], 29, false⟩, some ⟨[Value.slice none 0 0, .int .i64 0, .int .i64 0, .int .i64 0, .int .i64 0, .slice none 0 0, .slice none 0 0, .int .i64 0, .int .u32 0, .int .i64 0, .int .i64 0, .int .u32 0, .int .i64 0, .int .i64 0], 29, false⟩, some ⟨(tab boC uu), 4, false⟩, some ⟨[Value.slice (some ⟨5, 0, none⟩) c.length c.length], 48, false⟩, some ⟨(tab inC ((plS c uu k).1)), 3, false⟩, some ⟨[Value.slice (some ⟨7, 0, none⟩) c.length c.length], 22, false⟩, some ⟨(tab iiC ((plS c uu k).2)), 50, false⟩]⟩) (c.length - 0) _ (emOf [some 0, some 1, some 2, some 3, some 4, some 5, some 6, some 7, some 8, none]) hX ⟨0, rfl, (by omega), rfl⟩ ⟨sub_of kr kr ⟨bk_flat (tab iiC c) kr (tab_plain iiC_pl _) rfl, bk_flat (tab inC (od ++ oj)) kr (tab_plain inC_pl _) rfl, bk_flat (tab inC (rd ++ rj)) kr (tab_plain inC_pl _) rfl, bk_ren kr kr, bk_ren kr kr, bk_flat (tab boC (bkU c (outS (outS (outS (List.replicate c.length false) od) rd) ([fl, tg])) (c.length - 0))) kr (tab_plain boC_pl _) (congrArg (tab boC) (by rw [huu]; rfl)), bk_ren kr kr, bk_flat (tab inC (List.replicate c.length 0)) kr (tab_plain inC_pl _) (congrArg (tab inC) (by rfl)), bk_ren kr kr, rfl, True.intro⟩, te_of kr kr⟩ kr ?_
    rintro m9 s9 ⟨k, rfl, i2_0, rfl⟩ R2_ hR2_
    by_cases hltB : k < c.length
    · skip
      have hpl := plS_le c uu k
      obtain ⟨a1, ha1⟩ : ∃ x_, (c)[k]? = some x_ := ⟨_, List.getElem?_eq_getElem (by omega)⟩
      obtain ⟨a2, ha2⟩ : ∃ x_, (uu)[k]? = some x_ := ⟨_, List.getElem?_eq_getElem (by omega)⟩
      have hmd := hR.code k a1 ha1
      rcases Bool.eq_false_or_eq_true a2 with hbq | hbq
      · skip
        have hr1 := ha2; rw [hbq] at hr1
        rcases (by omega : a1.1 = 3 ∨ a1.1 = 4 ∨ (a1.1 ≠ 3 ∧ a1.1 ≠ 4)) with hop | hop | hop
        · skip
          obtain ⟨⟨qa1, qa2⟩, qb1, qb2⟩ := made_ab hmd (by omega)
          obtain ⟨A, hA⟩ := Int.eq_ofNat_of_zero_le qa1
          obtain ⟨B, hB⟩ := Int.eq_ofNat_of_zero_le qb1
          obtain ⟨b1, hb1⟩ : ∃ x_, (((plS c uu k).1).set k ((((plS c uu k).2.length : Nat) : Int)))[A]? = some x_ := ⟨_, List.getElem?_eq_getElem (by simp; omega)⟩
          obtain ⟨b2, hb2⟩ : ∃ x_, (((plS c uu k).1).set k ((((plS c uu k).2.length : Nat) : Int)))[B]? = some x_ := ⟨_, List.getElem?_eq_getElem (by simp; omega)⟩
          refine sd_run 3 ?_
          refine sd_see 71 (.bool true) (see_bool kr ((decide_eq_true (by omega)) : ((decide (((k : Nat) : Int) < ((c.length : Nat) : Int)))) = true)) ?_
          refine sd_run 11 ?_
          refine sd_ix 73 (.pointer (some ⟨0, 0 + k * 5, none⟩)) k c.length kr kr kr (by first | omega | (simp; omega)) ?_
          refine sd_ld 74 (.agg #[.int .i64 a1.1, .int .i64 a1.2.1, .int .i64 a1.2.2.1, .int .i64 a1.2.2.2.1, .int .u32 a1.2.2.2.2]) 50 (.pointer (some ⟨0, 0 + k * 5, none⟩)) kr kr kr (ld_row (l := c) (e := 50) (ro := false) (k := k) iiC_len kr kr kr ha1) ?_
          refine sd_run 10 ?_
          refine sd_ix 77 (.pointer (some ⟨5, 0 + k * 1, none⟩)) k c.length kr kr kr (by first | omega | (simp; omega)) ?_
          refine sd_ld 78 (.bool a2) 4 (.pointer (some ⟨5, 0 + k * 1, none⟩)) kr kr kr (ld_cell (l := uu) (e := 4) (ro := false) (k := k) (j := 0) boC_len kr kr kr ha2 rfl) ?_
          refine sd_run 1 ?_
          refine sd_see 79 (.bool false) (see_bool kr ((by rw [hbq]; rfl) : (!a2) = false)) ?_
          refine sd_run 11 ?_
          refine sd_ix 84 (.pointer (some ⟨7, 0 + k * 1, none⟩)) k c.length kr kr kr (by first | omega | (simp; omega)) ?_
          obtain ⟨a3, ha3⟩ : ∃ x_, ((plS c uu k).1)[k]? = some x_ := ⟨_, List.getElem?_eq_getElem (by simp; omega)⟩
          refine sd_st 3 7 (0 + k * 1) (.int .i64 (((plS c uu k).2.length : Nat) : Int)) (tab inC (((plS c uu k).1).set k (((plS c uu k).2.length : Nat) : Int))) (cells := tab inC ((plS c uu k).1)) (e := 3) kr kr kr kr (st_cell (k := k) (j := 0) (a' := (((plS c uu k).2.length : Nat) : Int)) inC_len kr kr ha3 kr rfl) ?_
          refine sd_run 7 ?_
          refine sd_see 86 (.int .i64 3) (see_int (x := a1.1) kr (by omega)) ?_
          refine sd_run 9 ?_
          refine sd_drawQ [(5, 11), (9, 11)] kr kr ?_
          refine sq_run 3 ?_
          refine sq_see 95 (.int .i64 ((A : Nat) : Int)) (see_int (x := a1.2.2.1) kr hA) ?_
          refine sq_ix 96 (.pointer (some ⟨7, 0 + A * 1, none⟩)) A c.length kr kr kr (by first | omega | (simp; omega)) kr ?_
          refine sq_ld 97 (.int .i64 b1) 3 (.pointer (some ⟨7, 0 + A * 1, none⟩)) kr kr kr (ld_cell (l := (((plS c uu k).1).set k (((plS c uu k).2.length : Nat) : Int))) (e := 3) (ro := false) (k := A) (j := 0) inC_len kr kr kr hb1 rfl) kr ?_
          refine sq_rd 98 (.slice (some ⟨7, 0, none⟩) c.length c.length) (.pointer (some ⟨8, 0, none⟩)) 22 kr kr kr kr (veq_slice _ _ _) kr ?_
          refine sq_run 2 ?_
          refine sq_see 100 (.int .i64 ((B : Nat) : Int)) (see_int (x := a1.2.2.2.1) kr hB) ?_
          refine sq_ix 101 (.pointer (some ⟨7, 0 + B * 1, none⟩)) B c.length kr kr kr (by first | omega | (simp; omega)) kr ?_
          refine sq_rd 102 (.int .i64 b2) (.pointer (some ⟨7, 0 + B * 1, none⟩)) 3 kr kr kr (ld_cell (l := (((plS c uu k).1).set k (((plS c uu k).2.length : Nat) : Int))) (e := 3) (ro := false) (k := B) (j := 0) inC_len kr kr kr hb2 rfl) (veq_int _ _) kr ?_
          refine sq_run 1 ?_
          refine sq_sto (hq [some ⟨(tab iiC c), 50, false⟩, some ⟨(tab inC (od ++ oj)), 3, false⟩, some ⟨(tab inC (rd ++ rj)), 3, false⟩, some ⟨[Value.slice (some ⟨0, 0, none⟩) c.length (unk + 5), .int .i64 nd, .int .i64 nr, .int .i64 hd, .int .i64 hr, .slice (some ⟨1, 0, none⟩) od.length (unk + 1), .slice (some ⟨2, 0, none⟩) rd.length (unk + 1), .int .i64 fl, .int .u32 nx, .int .i64 tg, .int .i64 br, .int .u32 tk, .int .i64 ct, .int .i64 ((c.length : Nat) : Int)], 29, false⟩, some ⟨[Value.slice none 0 0, .int .i64 0, .int .i64 0, .int .i64 0, .int .i64 0, .slice none 0 0, .slice none 0 0, .int .i64 0, .int .u32 0, .int .i64 0, .int .i64 0, .int .u32 0, .int .i64 0, .int .i64 0], 29, false⟩, some ⟨(tab boC uu), 4, false⟩, some ⟨[Value.slice (some ⟨5, 0, none⟩) c.length c.length], 48, false⟩, some ⟨(tab inC (((plS c uu k).1).set k (((plS c uu k).2.length : Nat) : Int))), 3, false⟩, some ⟨[Value.slice (some ⟨7, 0, none⟩) c.length c.length], 22, false⟩, some ⟨(tab iiC ((plS c uu k).2)), 50, false⟩, some ⟨[Value.int .i64 a1.1, .int .i64 a1.2.1, .int .i64 b1, .int .i64 a1.2.2.2.1, .int .u32 a1.2.2.2.2], 50, false⟩]) kr kr kr kr kr (qok_of [(9, .pointer (some ⟨7, 0 + B * 1, none⟩), .int .i64 b2), (5, .pointer (some ⟨8, 0, none⟩), .slice (some ⟨7, 0, none⟩) c.length c.length)] kr kr ⟨⟨(look_ld (ty := 3) kr (ld_cell (l := (((plS c uu k).1).set k (((plS c uu k).2.length : Nat) : Int))) (e := 3) (ro := false) (k := B) (j := 0) inC_len kr kr kr hb2 rfl)), (look_ld (ty := 3) kr (ld_cell (l := (((plS c uu k).1).set k (((plS c uu k).2.length : Nat) : Int))) (e := 3) (ro := false) (k := B) (j := 0) inC_len kr kr kr hb2 rfl))⟩, ⟨kr, kr⟩, True.intro⟩) ?_
          refine sq_run 2 ?_
          refine sq_end kr ?_
          refine sd_run 13 ?_
          refine sd_grow 111 26 26 50 4 39 9 ((plS c uu k).2.length) 1 12 (.slice (some ⟨11, 0, none⟩) 1 1) (tab iiC ((plS c uu k).2)) [Value.int .i64 a1.1, .int .i64 (((plS c uu k).2.length : Nat) : Int), .int .i64 b1, .int .i64 b2, .int .u32 a1.2.2.2.2] (tab iiC ((plS c uu k).2 ++ [(a1.1, (((plS c uu k).2.length : Nat) : Int), b1, b2, a1.2.2.2.2)])) kr kr kr kr kr ((tab_len iiC_len _).trans (by first | rfl | (simp only [List.length_append, List.length_cons, List.length_nil, List.length_set] at *; done))) kr kr (by decide) kr (by omega) kr (tab_snoc ((plS c uu k).2) (a1.1, (((plS c uu k).2.length : Nat) : Int), b1, b2, a1.2.2.2.2)) ?_
          refine sd_see 111 (.slice (some ⟨12, 0, none⟩) (((plS c uu k).2 ++ [(a1.1, (((plS c uu k).2.length : Nat) : Int), b1, b2, a1.2.2.2.2)]).length) (unk + 5)) (see_len (n := ((plS c uu k).2.length + 1)) kr (by simp)) ?_
          refine sd_run 6 ?_
          refine sd_see 112 (.int .i64 ((k + 1 : Nat) : Int)) (see_int (x := (IntKind.i64.wrap (((k : Nat) : Int) + 1))) kr (w64 (by omega) (by omega) (by omega))) ?_
          refine sd_run 2 ?_
          refine sd_see 8 (.slice (some ⟨12, 0, none⟩) ((plS c uu (k + 1)).2.length) (unk + 5)) (see_len (n := ((plS c uu k).2 ++ [(a1.1, (((plS c uu k).2.length : Nat) : Int), b1, b2, a1.2.2.2.2)]).length) kr (by rw [plS_yes ha1 hr1]; simp)) ?_
          refine sd_inv R2_ kr (hR2_ _ (c.length - (k + 1)) _ (emOf [some 0, some 1, some 2, some 3, some 4, some 5, some 6, some 7, some 8, some 12]) (by omega) ⟨k + 1, rfl, (by omega), rfl⟩ ⟨sub_of kr kr ⟨bk_flat (tab iiC c) kr (tab_plain iiC_pl _) rfl, bk_flat (tab inC (od ++ oj)) kr (tab_plain inC_pl _) rfl, bk_flat (tab inC (rd ++ rj)) kr (tab_plain inC_pl _) rfl, bk_ren kr kr, bk_ren kr kr, bk_flat (tab boC uu) kr (tab_plain boC_pl _) rfl, bk_ren kr kr, bk_flat (tab inC (((plS c uu k).1).set k (((plS c uu k).2.length : Nat) : Int))) kr (tab_plain inC_pl _) (congrArg (tab inC) (by first | (rw [plS_yes ha1 hr1]; done) | (rw [plS_yes ha1 hr1, plX_yes (by omega) hA hB hb1 hb2]; done))), bk_ren kr kr, bk_flat (tab iiC ((plS c uu k).2 ++ [(a1.1, (((plS c uu k).2.length : Nat) : Int), b1, b2, a1.2.2.2.2)])) kr (tab_plain iiC_pl _) (congrArg (tab iiC) (by first | (rw [plS_yes ha1 hr1]; done) | (rw [plS_yes ha1 hr1, plX_yes (by omega) hA hB hb1 hb2]; done))), True.intro⟩, te_of kr kr⟩ kr)
        · skip
          obtain ⟨⟨qa1, qa2⟩, qb1, qb2⟩ := made_ab hmd (by omega)
          obtain ⟨A, hA⟩ := Int.eq_ofNat_of_zero_le qa1
          obtain ⟨B, hB⟩ := Int.eq_ofNat_of_zero_le qb1
          obtain ⟨b1, hb1⟩ : ∃ x_, (((plS c uu k).1).set k ((((plS c uu k).2.length : Nat) : Int)))[A]? = some x_ := ⟨_, List.getElem?_eq_getElem (by simp; omega)⟩
          obtain ⟨b2, hb2⟩ : ∃ x_, (((plS c uu k).1).set k ((((plS c uu k).2.length : Nat) : Int)))[B]? = some x_ := ⟨_, List.getElem?_eq_getElem (by simp; omega)⟩
          refine sd_run 3 ?_
          refine sd_see 71 (.bool true) (see_bool kr ((decide_eq_true (by omega)) : ((decide (((k : Nat) : Int) < ((c.length : Nat) : Int)))) = true)) ?_
          refine sd_run 11 ?_
          refine sd_ix 73 (.pointer (some ⟨0, 0 + k * 5, none⟩)) k c.length kr kr kr (by first | omega | (simp; omega)) ?_
          refine sd_ld 74 (.agg #[.int .i64 a1.1, .int .i64 a1.2.1, .int .i64 a1.2.2.1, .int .i64 a1.2.2.2.1, .int .u32 a1.2.2.2.2]) 50 (.pointer (some ⟨0, 0 + k * 5, none⟩)) kr kr kr (ld_row (l := c) (e := 50) (ro := false) (k := k) iiC_len kr kr kr ha1) ?_
          refine sd_run 10 ?_
          refine sd_ix 77 (.pointer (some ⟨5, 0 + k * 1, none⟩)) k c.length kr kr kr (by first | omega | (simp; omega)) ?_
          refine sd_ld 78 (.bool a2) 4 (.pointer (some ⟨5, 0 + k * 1, none⟩)) kr kr kr (ld_cell (l := uu) (e := 4) (ro := false) (k := k) (j := 0) boC_len kr kr kr ha2 rfl) ?_
          refine sd_run 1 ?_
          refine sd_see 79 (.bool false) (see_bool kr ((by rw [hbq]; rfl) : (!a2) = false)) ?_
          refine sd_run 11 ?_
          refine sd_ix 84 (.pointer (some ⟨7, 0 + k * 1, none⟩)) k c.length kr kr kr (by first | omega | (simp; omega)) ?_
          obtain ⟨a4, ha4⟩ : ∃ x_, ((plS c uu k).1)[k]? = some x_ := ⟨_, List.getElem?_eq_getElem (by simp; omega)⟩
          refine sd_st 3 7 (0 + k * 1) (.int .i64 (((plS c uu k).2.length : Nat) : Int)) (tab inC (((plS c uu k).1).set k (((plS c uu k).2.length : Nat) : Int))) (cells := tab inC ((plS c uu k).1)) (e := 3) kr kr kr kr (st_cell (k := k) (j := 0) (a' := (((plS c uu k).2.length : Nat) : Int)) inC_len kr kr ha4 kr rfl) ?_
          refine sd_run 7 ?_
          refine sd_see 86 (.int .i64 4) (see_int (x := a1.1) kr (by omega)) ?_
          refine sd_run 4 ?_
          refine sd_see 90 (.int .i64 4) (see_int (x := a1.1) kr (by omega)) ?_
          refine sd_run 5 ?_
          refine sd_drawQ [(5, 11), (9, 11)] kr kr ?_
          refine sq_run 3 ?_
          refine sq_see 95 (.int .i64 ((A : Nat) : Int)) (see_int (x := a1.2.2.1) kr hA) ?_
          refine sq_ix 96 (.pointer (some ⟨7, 0 + A * 1, none⟩)) A c.length kr kr kr (by first | omega | (simp; omega)) kr ?_
          refine sq_ld 97 (.int .i64 b1) 3 (.pointer (some ⟨7, 0 + A * 1, none⟩)) kr kr kr (ld_cell (l := (((plS c uu k).1).set k (((plS c uu k).2.length : Nat) : Int))) (e := 3) (ro := false) (k := A) (j := 0) inC_len kr kr kr hb1 rfl) kr ?_
          refine sq_rd 98 (.slice (some ⟨7, 0, none⟩) c.length c.length) (.pointer (some ⟨8, 0, none⟩)) 22 kr kr kr kr (veq_slice _ _ _) kr ?_
          refine sq_run 2 ?_
          refine sq_see 100 (.int .i64 ((B : Nat) : Int)) (see_int (x := a1.2.2.2.1) kr hB) ?_
          refine sq_ix 101 (.pointer (some ⟨7, 0 + B * 1, none⟩)) B c.length kr kr kr (by first | omega | (simp; omega)) kr ?_
          refine sq_rd 102 (.int .i64 b2) (.pointer (some ⟨7, 0 + B * 1, none⟩)) 3 kr kr kr (ld_cell (l := (((plS c uu k).1).set k (((plS c uu k).2.length : Nat) : Int))) (e := 3) (ro := false) (k := B) (j := 0) inC_len kr kr kr hb2 rfl) (veq_int _ _) kr ?_
          refine sq_run 1 ?_
          refine sq_sto (hq [some ⟨(tab iiC c), 50, false⟩, some ⟨(tab inC (od ++ oj)), 3, false⟩, some ⟨(tab inC (rd ++ rj)), 3, false⟩, some ⟨[Value.slice (some ⟨0, 0, none⟩) c.length (unk + 5), .int .i64 nd, .int .i64 nr, .int .i64 hd, .int .i64 hr, .slice (some ⟨1, 0, none⟩) od.length (unk + 1), .slice (some ⟨2, 0, none⟩) rd.length (unk + 1), .int .i64 fl, .int .u32 nx, .int .i64 tg, .int .i64 br, .int .u32 tk, .int .i64 ct, .int .i64 ((c.length : Nat) : Int)], 29, false⟩, some ⟨[Value.slice none 0 0, .int .i64 0, .int .i64 0, .int .i64 0, .int .i64 0, .slice none 0 0, .slice none 0 0, .int .i64 0, .int .u32 0, .int .i64 0, .int .i64 0, .int .u32 0, .int .i64 0, .int .i64 0], 29, false⟩, some ⟨(tab boC uu), 4, false⟩, some ⟨[Value.slice (some ⟨5, 0, none⟩) c.length c.length], 48, false⟩, some ⟨(tab inC (((plS c uu k).1).set k (((plS c uu k).2.length : Nat) : Int))), 3, false⟩, some ⟨[Value.slice (some ⟨7, 0, none⟩) c.length c.length], 22, false⟩, some ⟨(tab iiC ((plS c uu k).2)), 50, false⟩, some ⟨[Value.int .i64 a1.1, .int .i64 a1.2.1, .int .i64 b1, .int .i64 a1.2.2.2.1, .int .u32 a1.2.2.2.2], 50, false⟩]) kr kr kr kr kr (qok_of [(9, .pointer (some ⟨7, 0 + B * 1, none⟩), .int .i64 b2), (5, .pointer (some ⟨8, 0, none⟩), .slice (some ⟨7, 0, none⟩) c.length c.length)] kr kr ⟨⟨(look_ld (ty := 3) kr (ld_cell (l := (((plS c uu k).1).set k (((plS c uu k).2.length : Nat) : Int))) (e := 3) (ro := false) (k := B) (j := 0) inC_len kr kr kr hb2 rfl)), (look_ld (ty := 3) kr (ld_cell (l := (((plS c uu k).1).set k (((plS c uu k).2.length : Nat) : Int))) (e := 3) (ro := false) (k := B) (j := 0) inC_len kr kr kr hb2 rfl))⟩, ⟨kr, kr⟩, True.intro⟩) ?_
          refine sq_run 2 ?_
          refine sq_end kr ?_
          refine sd_run 13 ?_
          refine sd_grow 111 26 26 50 4 39 9 ((plS c uu k).2.length) 1 12 (.slice (some ⟨11, 0, none⟩) 1 1) (tab iiC ((plS c uu k).2)) [Value.int .i64 a1.1, .int .i64 (((plS c uu k).2.length : Nat) : Int), .int .i64 b1, .int .i64 b2, .int .u32 a1.2.2.2.2] (tab iiC ((plS c uu k).2 ++ [(a1.1, (((plS c uu k).2.length : Nat) : Int), b1, b2, a1.2.2.2.2)])) kr kr kr kr kr ((tab_len iiC_len _).trans (by first | rfl | (simp only [List.length_append, List.length_cons, List.length_nil, List.length_set] at *; done))) kr kr (by decide) kr (by omega) kr (tab_snoc ((plS c uu k).2) (a1.1, (((plS c uu k).2.length : Nat) : Int), b1, b2, a1.2.2.2.2)) ?_
          refine sd_see 111 (.slice (some ⟨12, 0, none⟩) (((plS c uu k).2 ++ [(a1.1, (((plS c uu k).2.length : Nat) : Int), b1, b2, a1.2.2.2.2)]).length) (unk + 5)) (see_len (n := ((plS c uu k).2.length + 1)) kr (by simp)) ?_
          refine sd_run 6 ?_
          refine sd_see 112 (.int .i64 ((k + 1 : Nat) : Int)) (see_int (x := (IntKind.i64.wrap (((k : Nat) : Int) + 1))) kr (w64 (by omega) (by omega) (by omega))) ?_
          refine sd_run 2 ?_
          refine sd_see 8 (.slice (some ⟨12, 0, none⟩) ((plS c uu (k + 1)).2.length) (unk + 5)) (see_len (n := ((plS c uu k).2 ++ [(a1.1, (((plS c uu k).2.length : Nat) : Int), b1, b2, a1.2.2.2.2)]).length) kr (by rw [plS_yes ha1 hr1]; simp)) ?_
          refine sd_inv R2_ kr (hR2_ _ (c.length - (k + 1)) _ (emOf [some 0, some 1, some 2, some 3, some 4, some 5, some 6, some 7, some 8, some 12]) (by omega) ⟨k + 1, rfl, (by omega), rfl⟩ ⟨sub_of kr kr ⟨bk_flat (tab iiC c) kr (tab_plain iiC_pl _) rfl, bk_flat (tab inC (od ++ oj)) kr (tab_plain inC_pl _) rfl, bk_flat (tab inC (rd ++ rj)) kr (tab_plain inC_pl _) rfl, bk_ren kr kr, bk_ren kr kr, bk_flat (tab boC uu) kr (tab_plain boC_pl _) rfl, bk_ren kr kr, bk_flat (tab inC (((plS c uu k).1).set k (((plS c uu k).2.length : Nat) : Int))) kr (tab_plain inC_pl _) (congrArg (tab inC) (by first | (rw [plS_yes ha1 hr1]; done) | (rw [plS_yes ha1 hr1, plX_yes (by omega) hA hB hb1 hb2]; done))), bk_ren kr kr, bk_flat (tab iiC ((plS c uu k).2 ++ [(a1.1, (((plS c uu k).2.length : Nat) : Int), b1, b2, a1.2.2.2.2)])) kr (tab_plain iiC_pl _) (congrArg (tab iiC) (by first | (rw [plS_yes ha1 hr1]; done) | (rw [plS_yes ha1 hr1, plX_yes (by omega) hA hB hb1 hb2]; done))), True.intro⟩, te_of kr kr⟩ kr)
        · skip
          refine sd_run 3 ?_
          refine sd_see 71 (.bool true) (see_bool kr ((decide_eq_true (by omega)) : ((decide (((k : Nat) : Int) < ((c.length : Nat) : Int)))) = true)) ?_
          refine sd_run 11 ?_
          refine sd_ix 73 (.pointer (some ⟨0, 0 + k * 5, none⟩)) k c.length kr kr kr (by first | omega | (simp; omega)) ?_
          refine sd_ld 74 (.agg #[.int .i64 a1.1, .int .i64 a1.2.1, .int .i64 a1.2.2.1, .int .i64 a1.2.2.2.1, .int .u32 a1.2.2.2.2]) 50 (.pointer (some ⟨0, 0 + k * 5, none⟩)) kr kr kr (ld_row (l := c) (e := 50) (ro := false) (k := k) iiC_len kr kr kr ha1) ?_
          refine sd_run 10 ?_
          refine sd_ix 77 (.pointer (some ⟨5, 0 + k * 1, none⟩)) k c.length kr kr kr (by first | omega | (simp; omega)) ?_
          refine sd_ld 78 (.bool a2) 4 (.pointer (some ⟨5, 0 + k * 1, none⟩)) kr kr kr (ld_cell (l := uu) (e := 4) (ro := false) (k := k) (j := 0) boC_len kr kr kr ha2 rfl) ?_
          refine sd_run 1 ?_
          refine sd_see 79 (.bool false) (see_bool kr ((by rw [hbq]; rfl) : (!a2) = false)) ?_
          refine sd_run 11 ?_
          refine sd_ix 84 (.pointer (some ⟨7, 0 + k * 1, none⟩)) k c.length kr kr kr (by first | omega | (simp; omega)) ?_
          obtain ⟨a5, ha5⟩ : ∃ x_, ((plS c uu k).1)[k]? = some x_ := ⟨_, List.getElem?_eq_getElem (by simp; omega)⟩
          refine sd_st 3 7 (0 + k * 1) (.int .i64 (((plS c uu k).2.length : Nat) : Int)) (tab inC (((plS c uu k).1).set k (((plS c uu k).2.length : Nat) : Int))) (cells := tab inC ((plS c uu k).1)) (e := 3) kr kr kr kr (st_cell (k := k) (j := 0) (a' := (((plS c uu k).2.length : Nat) : Int)) inC_len kr kr ha5 kr rfl) ?_
          refine sd_run 8 ?_
          refine sd_see 87 (.bool false) (see_bool kr ((beq_eq_false_iff_ne.2 (by omega)) : (((a1.1 : Int) == 3)) = false)) ?_
          refine sd_run 4 ?_
          refine sd_see 91 (.bool false) (see_bool kr ((beq_eq_false_iff_ne.2 (by omega)) : (((a1.1 : Int) == 4)) = false)) ?_
          refine sd_run 18 ?_
          refine sd_grow 111 26 26 50 4 39 9 ((plS c uu k).2.length) 1 12 (.slice (some ⟨11, 0, none⟩) 1 1) (tab iiC ((plS c uu k).2)) [Value.int .i64 a1.1, .int .i64 (((plS c uu k).2.length : Nat) : Int), .int .i64 a1.2.2.1, .int .i64 a1.2.2.2.1, .int .u32 a1.2.2.2.2] (tab iiC ((plS c uu k).2 ++ [(a1.1, (((plS c uu k).2.length : Nat) : Int), a1.2.2.1, a1.2.2.2.1, a1.2.2.2.2)])) kr kr kr kr kr ((tab_len iiC_len _).trans (by first | rfl | (simp only [List.length_append, List.length_cons, List.length_nil, List.length_set] at *; done))) kr kr (by decide) kr (by omega) kr (tab_snoc ((plS c uu k).2) (a1.1, (((plS c uu k).2.length : Nat) : Int), a1.2.2.1, a1.2.2.2.1, a1.2.2.2.2)) ?_
          refine sd_see 111 (.slice (some ⟨12, 0, none⟩) (((plS c uu k).2 ++ [(a1.1, (((plS c uu k).2.length : Nat) : Int), a1.2.2.1, a1.2.2.2.1, a1.2.2.2.2)]).length) (unk + 5)) (see_len (n := ((plS c uu k).2.length + 1)) kr (by simp)) ?_
          refine sd_run 6 ?_
          refine sd_see 112 (.int .i64 ((k + 1 : Nat) : Int)) (see_int (x := (IntKind.i64.wrap (((k : Nat) : Int) + 1))) kr (w64 (by omega) (by omega) (by omega))) ?_
          refine sd_run 2 ?_
          refine sd_see 8 (.slice (some ⟨12, 0, none⟩) ((plS c uu (k + 1)).2.length) (unk + 5)) (see_len (n := ((plS c uu k).2 ++ [(a1.1, (((plS c uu k).2.length : Nat) : Int), a1.2.2.1, a1.2.2.2.1, a1.2.2.2.2)]).length) kr (by rw [plS_yes ha1 hr1]; simp)) ?_
          refine sd_inv R2_ kr (hR2_ _ (c.length - (k + 1)) _ (emOf [some 0, some 1, some 2, some 3, some 4, some 5, some 6, some 7, some 8, some 12]) (by omega) ⟨k + 1, rfl, (by omega), rfl⟩ ⟨sub_of kr kr ⟨bk_flat (tab iiC c) kr (tab_plain iiC_pl _) rfl, bk_flat (tab inC (od ++ oj)) kr (tab_plain inC_pl _) rfl, bk_flat (tab inC (rd ++ rj)) kr (tab_plain inC_pl _) rfl, bk_ren kr kr, bk_ren kr kr, bk_flat (tab boC uu) kr (tab_plain boC_pl _) rfl, bk_ren kr kr, bk_flat (tab inC (((plS c uu k).1).set k (((plS c uu k).2.length : Nat) : Int))) kr (tab_plain inC_pl _) (congrArg (tab inC) (by first | (rw [plS_yes ha1 hr1]; done) | (rw [plS_yes ha1 hr1, plX_no (by omega)]; done))), bk_ren kr kr, bk_flat (tab iiC ((plS c uu k).2 ++ [(a1.1, (((plS c uu k).2.length : Nat) : Int), a1.2.2.1, a1.2.2.2.1, a1.2.2.2.2)])) kr (tab_plain iiC_pl _) (congrArg (tab iiC) (by first | (rw [plS_yes ha1 hr1]; done) | (rw [plS_yes ha1 hr1, plX_no (by omega)]; done))), True.intro⟩, te_of kr kr⟩ kr)
      · skip
        have hr1 := ha2; rw [hbq] at hr1
        refine sd_run 3 ?_
        refine sd_see 71 (.bool true) (see_bool kr ((decide_eq_true (by omega)) : ((decide (((k : Nat) : Int) < ((c.length : Nat) : Int)))) = true)) ?_
        refine sd_run 11 ?_
        refine sd_ix 73 (.pointer (some ⟨0, 0 + k * 5, none⟩)) k c.length kr kr kr (by first | omega | (simp; omega)) ?_
        refine sd_ld 74 (.agg #[.int .i64 a1.1, .int .i64 a1.2.1, .int .i64 a1.2.2.1, .int .i64 a1.2.2.2.1, .int .u32 a1.2.2.2.2]) 50 (.pointer (some ⟨0, 0 + k * 5, none⟩)) kr kr kr (ld_row (l := c) (e := 50) (ro := false) (k := k) iiC_len kr kr kr ha1) ?_
        refine sd_run 10 ?_
        refine sd_ix 77 (.pointer (some ⟨5, 0 + k * 1, none⟩)) k c.length kr kr kr (by first | omega | (simp; omega)) ?_
        refine sd_ld 78 (.bool a2) 4 (.pointer (some ⟨5, 0 + k * 1, none⟩)) kr kr kr (ld_cell (l := uu) (e := 4) (ro := false) (k := k) (j := 0) boC_len kr kr kr ha2 rfl) ?_
        refine sd_run 1 ?_
        refine sd_see 79 (.bool true) (see_bool kr ((by rw [hbq]; rfl) : (!a2) = true)) ?_
        refine sd_run 9 ?_
        refine sd_see 112 (.int .i64 ((k + 1 : Nat) : Int)) (see_int (x := (IntKind.i64.wrap (((k : Nat) : Int) + 1))) kr (w64 (by omega) (by omega) (by omega))) ?_
        refine sd_run 2 ?_
        refine sd_see 8 (.slice (some ⟨9, 0, none⟩) ((plS c uu (k + 1)).2.length) (unk + 5)) (see_len (n := (plS c uu k).2.length) kr (by rw [plS_no ha1 hr1])) ?_
        refine sd_inv R2_ kr (hR2_ _ (c.length - (k + 1)) _ (emOf [some 0, some 1, some 2, some 3, some 4, some 5, some 6, some 7, some 8, some 9]) (by omega) ⟨k + 1, rfl, (by omega), rfl⟩ ⟨sub_of kr kr ⟨bk_flat (tab iiC c) kr (tab_plain iiC_pl _) rfl, bk_flat (tab inC (od ++ oj)) kr (tab_plain inC_pl _) rfl, bk_flat (tab inC (rd ++ rj)) kr (tab_plain inC_pl _) rfl, bk_ren kr kr, bk_ren kr kr, bk_flat (tab boC uu) kr (tab_plain boC_pl _) rfl, bk_ren kr kr, bk_flat (tab inC ((plS c uu k).1)) kr (tab_plain inC_pl _) (congrArg (tab inC) (by rw [plS_no ha1 hr1])), bk_ren kr kr, bk_flat (tab iiC ((plS c uu k).2)) kr (tab_plain iiC_pl _) (congrArg (tab iiC) (by rw [plS_no ha1 hr1])), True.intro⟩, te_of kr kr⟩ kr)
    · skip
      obtain rfl : k = c.length := by omega
      refine sd_run 3 ?_
      refine sd_see 71 (.bool false) (see_bool kr ((decide_eq_false (by omega)) : ((decide (((c.length : Nat) : Int) < ((c.length : Nat) : Int)))) = false)) ?_
      refine sd_run 16 ?_
      have hplc := plS_le c uu c.length
      refine sd_re (⟨tmL [(1, .pointer (some ⟨3, 0, none⟩)), (2, .pointer (some ⟨4, 0, none⟩)), (7, .pointer (some ⟨8, 0, none⟩)), (8, .slice (some ⟨9, 0, none⟩) ((plS c uu c.length).2.length) (unk + 5)), (11, .func (.func 40) #[] #[.pointer (some ⟨8, 0, none⟩)])], hq [some ⟨(tab iiC c), 50, false⟩, some ⟨(tab inC (od ++ oj)), 3, false⟩, some ⟨(tab inC (rd ++ rj)), 3, false⟩, some ⟨[Value.slice (some ⟨0, 0, none⟩) c.length (unk + 5), .int .i64 nd, .int .i64 nr, .int .i64 hd, .int .i64 hr, .slice (some ⟨1, 0, none⟩) od.length (unk + 1), .slice (some ⟨2, 0, none⟩) rd.length (unk + 1), .int .i64 fl, .int .u32 nx, .int .i64 tg, .int .i64 br, .int .u32 tk, .int .i64 ct, .int .i64 ((c.length : Nat) : Int)], 29, false⟩, some ⟨[Value.slice none 0 0, .int .i64 0, .int .i64 0, .int .i64 0, .int .i64 0, .slice none 0 0, .slice none 0 0, .int .i64 0, .int .u32 0, .int .i64 0, .int .i64 0, .int .u32 0, .int .i64 0, .int .i64 0], 29, false⟩, none, none, some ⟨(tab inC ((plS c uu c.length).1)), 3, false⟩, some ⟨[Value.slice (some ⟨7, 0, none⟩) c.length c.length], 22, false⟩, some ⟨(tab iiC ((plS c uu c.length).2)), 50, false⟩]⟩) (emOf [some 0, some 1, some 2, some 3, some 4, none, none, some 7, some 8, some 9]) hX ⟨sub_of kr kr ⟨bk_flat (tab iiC c) kr (tab_plain iiC_pl _) rfl, bk_flat (tab inC (od ++ oj)) kr (tab_plain inC_pl _) rfl, bk_flat (tab inC (rd ++ rj)) kr (tab_plain inC_pl _) rfl, bk_ren kr kr, bk_ren kr kr, bk_flat (tab inC ((plS c uu c.length).1)) kr (tab_plain inC_pl _) rfl, bk_ren kr kr, bk_flat (tab iiC ((plS c uu c.length).2)) kr (tab_plain iiC_pl _) rfl, True.intro⟩, te_of kr kr⟩ kr ?_
      refine sd_drawP kr ?_
      refine svp_go 6 ?_
      refine svp_line ?_
      refine sv_call 120 40 #[.slice (some ⟨1, 0, none⟩) od.length (unk + 1), .pointer (some ⟨8, 0, none⟩)] (moved_s (l := od) (j := oj) (m := c.length) (P := (plS c uu c.length).1) (by simp) (by omega) hol hod) (emOf [some 8, some 7, some 1]) kr kr kr (hn_of 0 kr ⟨bk_ren kr kr, bk_flat (tab inC ((plS c uu c.length).1)) kr (tab_plain inC_pl _) rfl, bk_flat (tab inC (od ++ oj)) kr (tab_plain inC_pl _) rfl, True.intro⟩) (rnG_sound rn2_sound _ _ kr) ?_
      rintro v9 k9 ⟨rfl, rfl⟩
      refine ⟨.slice (some ⟨10, 0, none⟩) ((movL ((plS c uu c.length).1) od).length) (unk + 1), hq [some ⟨(tab iiC c), 50, false⟩, some ⟨(tab inC (od ++ oj)), 3, false⟩, some ⟨(tab inC (rd ++ rj)), 3, false⟩, some ⟨[Value.slice (some ⟨0, 0, none⟩) c.length (unk + 5), .int .i64 nd, .int .i64 nr, .int .i64 hd, .int .i64 hr, .slice (some ⟨1, 0, none⟩) od.length (unk + 1), .slice (some ⟨2, 0, none⟩) rd.length (unk + 1), .int .i64 fl, .int .u32 nx, .int .i64 tg, .int .i64 br, .int .u32 tk, .int .i64 ct, .int .i64 ((c.length : Nat) : Int)], 29, false⟩, some ⟨[Value.slice none 0 0, .int .i64 0, .int .i64 0, .int .i64 0, .int .i64 0, .slice none 0 0, .slice none 0 0, .int .i64 0, .int .u32 0, .int .i64 0, .int .i64 0, .int .u32 0, .int .i64 0, .int .i64 0], 29, false⟩, none, none, some ⟨(tab inC ((plS c uu c.length).1)), 3, false⟩, some ⟨[Value.slice (some ⟨7, 0, none⟩) c.length c.length], 22, false⟩, some ⟨(tab iiC ((plS c uu c.length).2)), 50, false⟩, some ⟨(tab inC (movL ((plS c uu c.length).1) od)), 3, false⟩], glue_of kr kr ⟨cov_old kr kr, cov_same 2 (hn_of 0 kr ⟨bk_ren kr kr, bk_flat (tab inC ((plS c uu c.length).1)) kr (tab_plain inC_pl _) rfl, bk_flat (tab inC (od ++ oj)) kr (tab_plain inC_pl _) rfl, True.intro⟩) kr kr kr kr kr, cov_old kr kr, cov_old kr kr, cov_old kr kr, cov_same 1 (hn_of 0 kr ⟨bk_ren kr kr, bk_flat (tab inC ((plS c uu c.length).1)) kr (tab_plain inC_pl _) rfl, bk_flat (tab inC (od ++ oj)) kr (tab_plain inC_pl _) rfl, True.intro⟩) kr kr kr kr kr, cov_same 0 (hn_of 0 kr ⟨bk_ren kr kr, bk_flat (tab inC ((plS c uu c.length).1)) kr (tab_plain inC_pl _) rfl, bk_flat (tab inC (od ++ oj)) kr (tab_plain inC_pl _) rfl, True.intro⟩) kr kr kr kr kr, cov_old kr kr, cov_flat 3 kr kr (tab_plain inC_pl _), True.intro⟩, rn2_sound _ _ kr, (fun _ => ⟨kr, keep_of (l1 := [some ⟨(tab iiC c), 50, false⟩, some ⟨(tab inC (od ++ oj)), 3, false⟩, some ⟨(tab inC (rd ++ rj)), 3, false⟩, some ⟨[Value.slice (some ⟨0, 0, none⟩) c.length (unk + 5), .int .i64 nd, .int .i64 nr, .int .i64 hd, .int .i64 hr, .slice (some ⟨1, 0, none⟩) od.length (unk + 1), .slice (some ⟨2, 0, none⟩) rd.length (unk + 1), .int .i64 fl, .int .u32 nx, .int .i64 tg, .int .i64 br, .int .u32 tk, .int .i64 ct, .int .i64 ((c.length : Nat) : Int)], 29, false⟩, some ⟨[Value.slice none 0 0, .int .i64 0, .int .i64 0, .int .i64 0, .int .i64 0, .slice none 0 0, .slice none 0 0, .int .i64 0, .int .u32 0, .int .i64 0, .int .i64 0, .int .u32 0, .int .i64 0, .int .i64 0], 29, false⟩, none, none, some ⟨(tab inC ((plS c uu c.length).1)), 3, false⟩, some ⟨[Value.slice (some ⟨7, 0, none⟩) c.length c.length], 22, false⟩, some ⟨(tab iiC ((plS c uu c.length).2)), 50, false⟩]) kr kr⟩), ?_⟩
      refine sv_run 2 ?_
      refine sv_rd 123 (.slice (some ⟨2, 0, none⟩) rd.length (unk + 1)) 22 3 6 kr kr kr kr (veq_slice _ _ _) kr ?_
      refine sv_call 124 40 #[.slice (some ⟨2, 0, none⟩) rd.length (unk + 1), .pointer (some ⟨8, 0, none⟩)] (moved_s (l := rd) (j := rj) (m := c.length) (P := (plS c uu c.length).1) (by simp) (by omega) hrl hrd) (emOf [some 8, some 7, some 2]) kr kr kr (hn_of 0 kr ⟨bk_ren kr kr, bk_flat (tab inC ((plS c uu c.length).1)) kr (tab_plain inC_pl _) rfl, bk_flat (tab inC (rd ++ rj)) kr (tab_plain inC_pl _) rfl, True.intro⟩) (rnG_sound rn2_sound _ _ kr) ?_
      rintro v9 k9 ⟨rfl, rfl⟩
      refine ⟨.slice (some ⟨11, 0, none⟩) ((movL ((plS c uu c.length).1) rd).length) (unk + 1), hq [some ⟨(tab iiC c), 50, false⟩, some ⟨(tab inC (od ++ oj)), 3, false⟩, some ⟨(tab inC (rd ++ rj)), 3, false⟩, some ⟨[Value.slice (some ⟨0, 0, none⟩) c.length (unk + 5), .int .i64 nd, .int .i64 nr, .int .i64 hd, .int .i64 hr, .slice (some ⟨1, 0, none⟩) od.length (unk + 1), .slice (some ⟨2, 0, none⟩) rd.length (unk + 1), .int .i64 fl, .int .u32 nx, .int .i64 tg, .int .i64 br, .int .u32 tk, .int .i64 ct, .int .i64 ((c.length : Nat) : Int)], 29, false⟩, some ⟨[Value.slice none 0 0, .int .i64 0, .int .i64 0, .int .i64 0, .int .i64 0, .slice none 0 0, .slice none 0 0, .int .i64 0, .int .u32 0, .int .i64 0, .int .i64 0, .int .u32 0, .int .i64 0, .int .i64 0], 29, false⟩, none, none, some ⟨(tab inC ((plS c uu c.length).1)), 3, false⟩, some ⟨[Value.slice (some ⟨7, 0, none⟩) c.length c.length], 22, false⟩, some ⟨(tab iiC ((plS c uu c.length).2)), 50, false⟩, some ⟨(tab inC (movL ((plS c uu c.length).1) od)), 3, false⟩, some ⟨(tab inC (movL ((plS c uu c.length).1) rd)), 3, false⟩], glue_of kr kr ⟨cov_old kr kr, cov_old kr kr, cov_same 2 (hn_of 0 kr ⟨bk_ren kr kr, bk_flat (tab inC ((plS c uu c.length).1)) kr (tab_plain inC_pl _) rfl, bk_flat (tab inC (rd ++ rj)) kr (tab_plain inC_pl _) rfl, True.intro⟩) kr kr kr kr kr, cov_old kr kr, cov_old kr kr, cov_same 1 (hn_of 0 kr ⟨bk_ren kr kr, bk_flat (tab inC ((plS c uu c.length).1)) kr (tab_plain inC_pl _) rfl, bk_flat (tab inC (rd ++ rj)) kr (tab_plain inC_pl _) rfl, True.intro⟩) kr kr kr kr kr, cov_same 0 (hn_of 0 kr ⟨bk_ren kr kr, bk_flat (tab inC ((plS c uu c.length).1)) kr (tab_plain inC_pl _) rfl, bk_flat (tab inC (rd ++ rj)) kr (tab_plain inC_pl _) rfl, True.intro⟩) kr kr kr kr kr, cov_old kr kr, cov_old kr kr, cov_flat 3 kr kr (tab_plain inC_pl _), True.intro⟩, rn2_sound _ _ kr, (calm_no kr), ?_⟩
      refine sv_run 8 ?_
      refine sv_end kr ?_
      refine sd_run 3 ?_
      by_cases hxfl : fl = -1
      · skip
        refine sd_run 4 ?_
        refine sd_see 131 (.bool false) (see_bool kr ((bne_eq_false_iff_eq.2 (by omega)) : (((fl : Int) != (-1))) = false)) ?_
        refine sd_run 7 ?_
        by_cases hxtg : tg = -1
        · skip
          refine sd_run 4 ?_
          refine sd_see 140 (.bool false) (see_bool kr ((bne_eq_false_iff_eq.2 (by omega)) : (((tg : Int) != (-1))) = false)) ?_
          refine sd_run 12 ?_
          subst huu
          refine sd_end (.agg #[.slice (some ⟨9, 0, none⟩) ((plS c (swU c od rd fl tg) c.length).2.length) (unk + 5), .int .i64 nd, .int .i64 nr, .int .i64 hd, .int .i64 hr, .slice (some ⟨10, 0, none⟩) ((movL ((plS c (swU c od rd fl tg) c.length).1) od).length) (unk + 1), .slice (some ⟨11, 0, none⟩) ((movL ((plS c (swU c od rd fl tg) c.length).1) rd).length) (unk + 1), .int .i64 fl, .int .u32 nx, .int .i64 tg, .int .i64 br, .int .u32 tk, .int .i64 ct, .int .i64 (((plS c (swU c od rd fl tg) c.length).2.length : Nat) : Int)]) hX kr kr kr (.agg #[.slice (some ⟨3, 0, none⟩) ((swC c od rd fl tg).length) (unk + 5), .int .i64 nd, .int .i64 nr, .int .i64 hd, .int .i64 hr, .slice (some ⟨4, 0, none⟩) ((movL (swP c od rd fl tg) od).length) (unk + 1), .slice (some ⟨5, 0, none⟩) ((movL (swP c od rd fl tg) rd).length) (unk + 1), .int .i64 fl, .int .u32 nx, .int .i64 tg, .int .i64 br, .int .u32 tk, .int .i64 ct, .int .i64 (((swC c od rd fl tg).length : Nat) : Int)]) (hq [some ⟨(tab iiC c), 50, false⟩, some ⟨(tab inC (od ++ oj)), 3, false⟩, some ⟨(tab inC (rd ++ rj)), 3, false⟩, some ⟨(tab iiC (swC c od rd fl tg)), 50, false⟩, some ⟨(tab inC (movL (swP c od rd fl tg) od)), 3, false⟩, some ⟨(tab inC (movL (swP c od rd fl tg) rd)), 3, false⟩]) (emOf [some 0, some 1, some 2, some 9, some 10, some 11]) (sub_of kr kr ⟨bk_flat (tab iiC c) kr (tab_plain iiC_pl _) rfl, bk_flat (tab inC (od ++ oj)) kr (tab_plain inC_pl _) rfl, bk_flat (tab inC (rd ++ rj)) kr (tab_plain inC_pl _) rfl, bk_flat (tab iiC ((plS c (swU c od rd fl tg) c.length).2)) kr (tab_plain iiC_pl _) (by rfl), bk_flat (tab inC (movL ((plS c (swU c od rd fl tg) c.length).1) od)) kr (tab_plain inC_pl _) (by rfl), bk_flat (tab inC (movL ((plS c (swU c od rd fl tg) c.length).1) rd)) kr (tab_plain inC_pl _) (by rfl), True.intro⟩) (rn2_sound _ _ kr) ⟨fl, tg, (movO_no hxfl), (movO_no hxtg), rfl, rfl⟩
        · skip
          obtain ⟨TG, hTG, hTGl⟩ : ∃ F : Nat, tg = (F : Int) ∧ F < c.length := ⟨tg.toNat, by omega, by omega⟩
          obtain ⟨a6, ha6⟩ : ∃ x_, ((plS c uu c.length).1)[TG]? = some x_ := ⟨_, List.getElem?_eq_getElem (by simp; omega)⟩
          refine sd_run 4 ?_
          refine sd_see 140 (.bool true) (see_bool kr ((bne_iff_ne.2 (by omega)) : (((tg : Int) != (-1))) = true)) ?_
          refine sd_run 7 ?_
          refine sd_see 143 (.int .i64 ((TG : Nat) : Int)) (see_int (x := tg) kr hTG) ?_
          refine sd_ix 144 (.pointer (some ⟨7, 0 + TG * 1, none⟩)) TG c.length kr kr kr (by first | omega | (simp; omega)) ?_
          refine sd_ld 145 (.int .i64 a6) 3 (.pointer (some ⟨7, 0 + TG * 1, none⟩)) kr kr kr (ld_cell (l := (plS c uu c.length).1) (e := 3) (ro := false) (k := TG) (j := 0) inC_len kr kr kr ha6 rfl) ?_
          refine sd_run 11 ?_
          subst huu
          refine sd_end (.agg #[.slice (some ⟨9, 0, none⟩) ((plS c (swU c od rd fl tg) c.length).2.length) (unk + 5), .int .i64 nd, .int .i64 nr, .int .i64 hd, .int .i64 hr, .slice (some ⟨10, 0, none⟩) ((movL ((plS c (swU c od rd fl tg) c.length).1) od).length) (unk + 1), .slice (some ⟨11, 0, none⟩) ((movL ((plS c (swU c od rd fl tg) c.length).1) rd).length) (unk + 1), .int .i64 fl, .int .u32 nx, .int .i64 a6, .int .i64 br, .int .u32 tk, .int .i64 ct, .int .i64 (((plS c (swU c od rd fl tg) c.length).2.length : Nat) : Int)]) hX kr kr kr (.agg #[.slice (some ⟨3, 0, none⟩) ((swC c od rd fl tg).length) (unk + 5), .int .i64 nd, .int .i64 nr, .int .i64 hd, .int .i64 hr, .slice (some ⟨4, 0, none⟩) ((movL (swP c od rd fl tg) od).length) (unk + 1), .slice (some ⟨5, 0, none⟩) ((movL (swP c od rd fl tg) rd).length) (unk + 1), .int .i64 fl, .int .u32 nx, .int .i64 a6, .int .i64 br, .int .u32 tk, .int .i64 ct, .int .i64 (((swC c od rd fl tg).length : Nat) : Int)]) (hq [some ⟨(tab iiC c), 50, false⟩, some ⟨(tab inC (od ++ oj)), 3, false⟩, some ⟨(tab inC (rd ++ rj)), 3, false⟩, some ⟨(tab iiC (swC c od rd fl tg)), 50, false⟩, some ⟨(tab inC (movL (swP c od rd fl tg) od)), 3, false⟩, some ⟨(tab inC (movL (swP c od rd fl tg) rd)), 3, false⟩]) (emOf [some 0, some 1, some 2, some 9, some 10, some 11]) (sub_of kr kr ⟨bk_flat (tab iiC c) kr (tab_plain iiC_pl _) rfl, bk_flat (tab inC (od ++ oj)) kr (tab_plain inC_pl _) rfl, bk_flat (tab inC (rd ++ rj)) kr (tab_plain inC_pl _) rfl, bk_flat (tab iiC ((plS c (swU c od rd fl tg) c.length).2)) kr (tab_plain iiC_pl _) (by rfl), bk_flat (tab inC (movL ((plS c (swU c od rd fl tg) c.length).1) od)) kr (tab_plain inC_pl _) (by rfl), bk_flat (tab inC (movL ((plS c (swU c od rd fl tg) c.length).1) rd)) kr (tab_plain inC_pl _) (by rfl), True.intro⟩) (rn2_sound _ _ kr) ⟨fl, a6, (movO_no hxfl), (movO_at hTG ha6), rfl, rfl⟩
      · skip
        obtain ⟨FL, hFL, hFLl⟩ : ∃ F : Nat, fl = (F : Int) ∧ F < c.length := ⟨fl.toNat, by omega, by omega⟩
        obtain ⟨a7, ha7⟩ : ∃ x_, ((plS c uu c.length).1)[FL]? = some x_ := ⟨_, List.getElem?_eq_getElem (by simp; omega)⟩
        refine sd_run 4 ?_
        refine sd_see 131 (.bool true) (see_bool kr ((bne_iff_ne.2 (by omega)) : (((fl : Int) != (-1))) = true)) ?_
        refine sd_run 7 ?_
        refine sd_see 134 (.int .i64 ((FL : Nat) : Int)) (see_int (x := fl) kr hFL) ?_
        refine sd_ix 135 (.pointer (some ⟨7, 0 + FL * 1, none⟩)) FL c.length kr kr kr (by first | omega | (simp; omega)) ?_
        refine sd_ld 136 (.int .i64 a7) 3 (.pointer (some ⟨7, 0 + FL * 1, none⟩)) kr kr kr (ld_cell (l := (plS c uu c.length).1) (e := 3) (ro := false) (k := FL) (j := 0) inC_len kr kr kr ha7 rfl) ?_
        refine sd_run 6 ?_
        by_cases hxtg : tg = -1
        · skip
          refine sd_run 4 ?_
          refine sd_see 140 (.bool false) (see_bool kr ((bne_eq_false_iff_eq.2 (by omega)) : (((tg : Int) != (-1))) = false)) ?_
          refine sd_run 12 ?_
          subst huu
          refine sd_end (.agg #[.slice (some ⟨9, 0, none⟩) ((plS c (swU c od rd fl tg) c.length).2.length) (unk + 5), .int .i64 nd, .int .i64 nr, .int .i64 hd, .int .i64 hr, .slice (some ⟨10, 0, none⟩) ((movL ((plS c (swU c od rd fl tg) c.length).1) od).length) (unk + 1), .slice (some ⟨11, 0, none⟩) ((movL ((plS c (swU c od rd fl tg) c.length).1) rd).length) (unk + 1), .int .i64 a7, .int .u32 nx, .int .i64 tg, .int .i64 br, .int .u32 tk, .int .i64 ct, .int .i64 (((plS c (swU c od rd fl tg) c.length).2.length : Nat) : Int)]) hX kr kr kr (.agg #[.slice (some ⟨3, 0, none⟩) ((swC c od rd fl tg).length) (unk + 5), .int .i64 nd, .int .i64 nr, .int .i64 hd, .int .i64 hr, .slice (some ⟨4, 0, none⟩) ((movL (swP c od rd fl tg) od).length) (unk + 1), .slice (some ⟨5, 0, none⟩) ((movL (swP c od rd fl tg) rd).length) (unk + 1), .int .i64 a7, .int .u32 nx, .int .i64 tg, .int .i64 br, .int .u32 tk, .int .i64 ct, .int .i64 (((swC c od rd fl tg).length : Nat) : Int)]) (hq [some ⟨(tab iiC c), 50, false⟩, some ⟨(tab inC (od ++ oj)), 3, false⟩, some ⟨(tab inC (rd ++ rj)), 3, false⟩, some ⟨(tab iiC (swC c od rd fl tg)), 50, false⟩, some ⟨(tab inC (movL (swP c od rd fl tg) od)), 3, false⟩, some ⟨(tab inC (movL (swP c od rd fl tg) rd)), 3, false⟩]) (emOf [some 0, some 1, some 2, some 9, some 10, some 11]) (sub_of kr kr ⟨bk_flat (tab iiC c) kr (tab_plain iiC_pl _) rfl, bk_flat (tab inC (od ++ oj)) kr (tab_plain inC_pl _) rfl, bk_flat (tab inC (rd ++ rj)) kr (tab_plain inC_pl _) rfl, bk_flat (tab iiC ((plS c (swU c od rd fl tg) c.length).2)) kr (tab_plain iiC_pl _) (by rfl), bk_flat (tab inC (movL ((plS c (swU c od rd fl tg) c.length).1) od)) kr (tab_plain inC_pl _) (by rfl), bk_flat (tab inC (movL ((plS c (swU c od rd fl tg) c.length).1) rd)) kr (tab_plain inC_pl _) (by rfl), True.intro⟩) (rn2_sound _ _ kr) ⟨a7, tg, (movO_at hFL ha7), (movO_no hxtg), rfl, rfl⟩
        · skip
          obtain ⟨TG, hTG, hTGl⟩ : ∃ F : Nat, tg = (F : Int) ∧ F < c.length := ⟨tg.toNat, by omega, by omega⟩
          obtain ⟨a8, ha8⟩ : ∃ x_, ((plS c uu c.length).1)[TG]? = some x_ := ⟨_, List.getElem?_eq_getElem (by simp; omega)⟩
          refine sd_run 4 ?_
          refine sd_see 140 (.bool true) (see_bool kr ((bne_iff_ne.2 (by omega)) : (((tg : Int) != (-1))) = true)) ?_
          refine sd_run 7 ?_
          refine sd_see 143 (.int .i64 ((TG : Nat) : Int)) (see_int (x := tg) kr hTG) ?_
          refine sd_ix 144 (.pointer (some ⟨7, 0 + TG * 1, none⟩)) TG c.length kr kr kr (by first | omega | (simp; omega)) ?_
          refine sd_ld 145 (.int .i64 a8) 3 (.pointer (some ⟨7, 0 + TG * 1, none⟩)) kr kr kr (ld_cell (l := (plS c uu c.length).1) (e := 3) (ro := false) (k := TG) (j := 0) inC_len kr kr kr ha8 rfl) ?_
          refine sd_run 11 ?_
          subst huu
          refine sd_end (.agg #[.slice (some ⟨9, 0, none⟩) ((plS c (swU c od rd fl tg) c.length).2.length) (unk + 5), .int .i64 nd, .int .i64 nr, .int .i64 hd, .int .i64 hr, .slice (some ⟨10, 0, none⟩) ((movL ((plS c (swU c od rd fl tg) c.length).1) od).length) (unk + 1), .slice (some ⟨11, 0, none⟩) ((movL ((plS c (swU c od rd fl tg) c.length).1) rd).length) (unk + 1), .int .i64 a7, .int .u32 nx, .int .i64 a8, .int .i64 br, .int .u32 tk, .int .i64 ct, .int .i64 (((plS c (swU c od rd fl tg) c.length).2.length : Nat) : Int)]) hX kr kr kr (.agg #[.slice (some ⟨3, 0, none⟩) ((swC c od rd fl tg).length) (unk + 5), .int .i64 nd, .int .i64 nr, .int .i64 hd, .int .i64 hr, .slice (some ⟨4, 0, none⟩) ((movL (swP c od rd fl tg) od).length) (unk + 1), .slice (some ⟨5, 0, none⟩) ((movL (swP c od rd fl tg) rd).length) (unk + 1), .int .i64 a7, .int .u32 nx, .int .i64 a8, .int .i64 br, .int .u32 tk, .int .i64 ct, .int .i64 (((swC c od rd fl tg).length : Nat) : Int)]) (hq [some ⟨(tab iiC c), 50, false⟩, some ⟨(tab inC (od ++ oj)), 3, false⟩, some ⟨(tab inC (rd ++ rj)), 3, false⟩, some ⟨(tab iiC (swC c od rd fl tg)), 50, false⟩, some ⟨(tab inC (movL (swP c od rd fl tg) od)), 3, false⟩, some ⟨(tab inC (movL (swP c od rd fl tg) rd)), 3, false⟩]) (emOf [some 0, some 1, some 2, some 9, some 10, some 11]) (sub_of kr kr ⟨bk_flat (tab iiC c) kr (tab_plain iiC_pl _) rfl, bk_flat (tab inC (od ++ oj)) kr (tab_plain inC_pl _) rfl, bk_flat (tab inC (rd ++ rj)) kr (tab_plain inC_pl _) rfl, bk_flat (tab iiC ((plS c (swU c od rd fl tg) c.length).2)) kr (tab_plain iiC_pl _) (by rfl), bk_flat (tab inC (movL ((plS c (swU c od rd fl tg) c.length).1) od)) kr (tab_plain inC_pl _) (by rfl), bk_flat (tab inC (movL ((plS c (swU c od rd fl tg) c.length).1) rd)) kr (tab_plain inC_pl _) (by rfl), True.intro⟩) (rn2_sound _ _ kr) ⟨a7, a8, (movO_at hFL ha7), (movO_at hTG ha8), rfl, rfl⟩
  · skip
    obtain ⟨i, rfl⟩ : ∃ i, k = i + 1 := ⟨k - 1, by omega⟩
    refine sd_see 5 (.int .i64 ((i : Nat) : Int)) (see_int (x := ((((i + 1) : Nat) : Int) - 1)) kr (by omega)) ?_
    obtain ⟨a9, ha9⟩ : ∃ x_, (c)[i]? = some x_ := ⟨_, List.getElem?_eq_getElem (by omega)⟩
    have hmd := hR.code i a9 ha9
    obtain ⟨a10, ha10⟩ : ∃ x_, (bkU c (outS (outS (outS (List.replicate c.length false) od) rd) ([fl, tg])) (c.length - (i + 1)))[i]? = some x_ := ⟨_, List.getElem?_eq_getElem (by simp; omega)⟩
    rcases Bool.eq_false_or_eq_true a10 with hbq | hbq
    · skip
      have hr1 := ha10; rw [hbq] at hr1
      rcases (by omega : a9.1 = 3 ∨ a9.1 = 4 ∨ (a9.1 ≠ 3 ∧ a9.1 ≠ 4)) with hop | hop | hop
      · skip
        obtain ⟨⟨qa1, qa2⟩, qb1, qb2⟩ := made_ab hmd (by omega)
        obtain ⟨A, hA⟩ := Int.eq_ofNat_of_zero_le qa1
        obtain ⟨B, hB⟩ := Int.eq_ofNat_of_zero_le qb1
        refine sd_run 5 ?_
        refine sd_see 35 (.bool true) (see_bool kr ((decide_eq_true (by omega)) : ((decide (((i : Nat) : Int) ≥ 0))) = true)) ?_
        refine sd_run 12 ?_
        refine sd_ix 41 (.pointer (some ⟨0, 0 + i * 5, none⟩)) i c.length kr kr kr (by first | omega | (simp; omega)) ?_
        refine sd_ld 42 (.agg #[.int .i64 a9.1, .int .i64 a9.2.1, .int .i64 a9.2.2.1, .int .i64 a9.2.2.2.1, .int .u32 a9.2.2.2.2]) 50 (.pointer (some ⟨0, 0 + i * 5, none⟩)) kr kr kr (ld_row (l := c) (e := 50) (ro := false) (k := i) iiC_len kr kr kr ha9) ?_
        refine sd_run 8 ?_
        refine sd_ix 45 (.pointer (some ⟨5, 0 + i * 1, none⟩)) i c.length kr kr kr (by first | omega | (simp; omega)) ?_
        refine sd_ld 46 (.bool a10) 4 (.pointer (some ⟨5, 0 + i * 1, none⟩)) kr kr kr (ld_cell (l := bkU c (outS (outS (outS (List.replicate c.length false) od) rd) ([fl, tg])) (c.length - (i + 1))) (e := 4) (ro := false) (k := i) (j := 0) boC_len kr kr kr ha10 rfl) ?_
        refine sd_run 1 ?_
        refine sd_see 47 (.bool true) (see_bool kr (hbq : (a10) = true)) ?_
        refine sd_run 2 ?_
        refine sd_see 49 (.int .i64 3) (see_int (x := a9.1) kr (by omega)) ?_
        refine sd_run 17 ?_
        refine sd_call 63 39 #[.slice (some ⟨8, 0, none⟩) 2 2, .pointer (some ⟨6, 0, none⟩)] (mark_s (kc := 2) (l := [a9.2.2.1, a9.2.2.2.1]) (j := []) (m := c.length) (u := bkU c (outS (outS (outS (List.replicate c.length false) od) rd) ([fl, tg])) (c.length - (i + 1))) (by simp) (by omega) (by simp) (fun x hx => by simp at hx; omega)) (emOf [some 6, some 5, some 8]) kr kr kr (hn_of 0 kr ⟨bk_ren kr kr, bk_flat (tab boC (bkU c (outS (outS (outS (List.replicate c.length false) od) rd) ([fl, tg])) (c.length - (i + 1)))) kr (tab_plain boC_pl _) rfl, bk_flat [Value.int .i64 a9.2.2.1, .int .i64 a9.2.2.2.1] kr (tab_plain inC_pl _) rfl, True.intro⟩) (rnG_sound rn2_sound _ _ kr) ?_
        rintro v9 k9 ⟨rfl, rfl⟩
        refine ⟨.tuple #[], hq [some ⟨(tab iiC c), 50, false⟩, some ⟨(tab inC (od ++ oj)), 3, false⟩, some ⟨(tab inC (rd ++ rj)), 3, false⟩, some ⟨[Value.slice (some ⟨0, 0, none⟩) c.length (unk + 5), .int .i64 nd, .int .i64 nr, .int .i64 hd, .int .i64 hr, .slice (some ⟨1, 0, none⟩) od.length (unk + 1), .slice (some ⟨2, 0, none⟩) rd.length (unk + 1), .int .i64 fl, .int .u32 nx, .int .i64 tg, .int .i64 br, .int .u32 tk, .int .i64 ct, .int .i64 ((c.length : Nat) : Int)], 29, false⟩, some ⟨[Value.slice none 0 0, .int .i64 0, .int .i64 0, .int .i64 0, .int .i64 0, .slice none 0 0, .slice none 0 0, .int .i64 0, .int .u32 0, .int .i64 0, .int .i64 0, .int .u32 0, .int .i64 0, .int .i64 0], 29, false⟩, some ⟨(tab boC (outS (bkU c (outS (outS (outS (List.replicate c.length false) od) rd) ([fl, tg])) (c.length - (i + 1))) ([a9.2.2.1, a9.2.2.2.1]))), 4, false⟩, some ⟨[Value.slice (some ⟨5, 0, none⟩) c.length c.length], 48, false⟩, some ⟨[Value.int .i64 a9.1, .int .i64 a9.2.1, .int .i64 a9.2.2.1, .int .i64 a9.2.2.2.1, .int .u32 a9.2.2.2.2], 50, false⟩, some ⟨[Value.int .i64 a9.2.2.1, .int .i64 a9.2.2.2.1], 3, false⟩], glue_of kr kr ⟨cov_old kr kr, cov_old kr kr, cov_old kr kr, cov_old kr kr, cov_old kr kr, cov_flat 1 kr kr (tab_plain boC_pl _), cov_same 0 (hn_of 0 kr ⟨bk_ren kr kr, bk_flat (tab boC (bkU c (outS (outS (outS (List.replicate c.length false) od) rd) ([fl, tg])) (c.length - (i + 1)))) kr (tab_plain boC_pl _) rfl, bk_flat [Value.int .i64 a9.2.2.1, .int .i64 a9.2.2.2.1] kr (tab_plain inC_pl _) rfl, True.intro⟩) kr kr kr kr kr, cov_old kr kr, cov_same 2 (hn_of 0 kr ⟨bk_ren kr kr, bk_flat (tab boC (bkU c (outS (outS (outS (List.replicate c.length false) od) rd) ([fl, tg])) (c.length - (i + 1)))) kr (tab_plain boC_pl _) rfl, bk_flat [Value.int .i64 a9.2.2.1, .int .i64 a9.2.2.2.1] kr (tab_plain inC_pl _) rfl, True.intro⟩) kr kr kr kr kr, True.intro⟩, rn2_sound _ _ kr, ?_⟩
        refine sd_run 6 ?_
        refine sd_see 37 (.int .i64 (((i : Nat) : Int) - 1)) (see_int (x := (IntKind.i64.wrap (((i : Nat) : Int) - 1))) kr (w64 (by omega) (by omega) (by omega))) ?_
        refine sd_run 2 ?_
        refine sd_inv R1_ kr (hR1_ _ (1 + i) _ (emOf [some 0, some 1, some 2, some 3, some 4, some 5, some 6]) (by omega) ⟨i, rfl, (by omega), rfl⟩ ⟨sub_of kr kr ⟨bk_flat (tab iiC c) kr (tab_plain iiC_pl _) rfl, bk_flat (tab inC (od ++ oj)) kr (tab_plain inC_pl _) rfl, bk_flat (tab inC (rd ++ rj)) kr (tab_plain inC_pl _) rfl, bk_ren kr kr, bk_ren kr kr, bk_flat (tab boC (outS (bkU c (outS (outS (outS (List.replicate c.length false) od) rd) ([fl, tg])) (c.length - (i + 1))) ([a9.2.2.1, a9.2.2.2.1]))) kr (tab_plain boC_pl _) (congrArg (tab boC) (by rw [bkU_step ha9, bkStep_yes hr1 (by omega)])), bk_ren kr kr, True.intro⟩, te_of kr kr⟩ kr)
      · skip
        obtain ⟨⟨qa1, qa2⟩, qb1, qb2⟩ := made_ab hmd (by omega)
        obtain ⟨A, hA⟩ := Int.eq_ofNat_of_zero_le qa1
        obtain ⟨B, hB⟩ := Int.eq_ofNat_of_zero_le qb1
        refine sd_run 5 ?_
        refine sd_see 35 (.bool true) (see_bool kr ((decide_eq_true (by omega)) : ((decide (((i : Nat) : Int) ≥ 0))) = true)) ?_
        refine sd_run 12 ?_
        refine sd_ix 41 (.pointer (some ⟨0, 0 + i * 5, none⟩)) i c.length kr kr kr (by first | omega | (simp; omega)) ?_
        refine sd_ld 42 (.agg #[.int .i64 a9.1, .int .i64 a9.2.1, .int .i64 a9.2.2.1, .int .i64 a9.2.2.2.1, .int .u32 a9.2.2.2.2]) 50 (.pointer (some ⟨0, 0 + i * 5, none⟩)) kr kr kr (ld_row (l := c) (e := 50) (ro := false) (k := i) iiC_len kr kr kr ha9) ?_
        refine sd_run 8 ?_
        refine sd_ix 45 (.pointer (some ⟨5, 0 + i * 1, none⟩)) i c.length kr kr kr (by first | omega | (simp; omega)) ?_
        refine sd_ld 46 (.bool a10) 4 (.pointer (some ⟨5, 0 + i * 1, none⟩)) kr kr kr (ld_cell (l := bkU c (outS (outS (outS (List.replicate c.length false) od) rd) ([fl, tg])) (c.length - (i + 1))) (e := 4) (ro := false) (k := i) (j := 0) boC_len kr kr kr ha10 rfl) ?_
        refine sd_run 1 ?_
        refine sd_see 47 (.bool true) (see_bool kr (hbq : (a10) = true)) ?_
        refine sd_run 2 ?_
        refine sd_see 49 (.int .i64 4) (see_int (x := a9.1) kr (by omega)) ?_
        refine sd_run 4 ?_
        refine sd_see 53 (.int .i64 4) (see_int (x := a9.1) kr (by omega)) ?_
        refine sd_run 13 ?_
        refine sd_call 63 39 #[.slice (some ⟨8, 0, none⟩) 2 2, .pointer (some ⟨6, 0, none⟩)] (mark_s (kc := 2) (l := [a9.2.2.1, a9.2.2.2.1]) (j := []) (m := c.length) (u := bkU c (outS (outS (outS (List.replicate c.length false) od) rd) ([fl, tg])) (c.length - (i + 1))) (by simp) (by omega) (by simp) (fun x hx => by simp at hx; omega)) (emOf [some 6, some 5, some 8]) kr kr kr (hn_of 0 kr ⟨bk_ren kr kr, bk_flat (tab boC (bkU c (outS (outS (outS (List.replicate c.length false) od) rd) ([fl, tg])) (c.length - (i + 1)))) kr (tab_plain boC_pl _) rfl, bk_flat [Value.int .i64 a9.2.2.1, .int .i64 a9.2.2.2.1] kr (tab_plain inC_pl _) rfl, True.intro⟩) (rnG_sound rn2_sound _ _ kr) ?_
        rintro v9 k9 ⟨rfl, rfl⟩
        refine ⟨.tuple #[], hq [some ⟨(tab iiC c), 50, false⟩, some ⟨(tab inC (od ++ oj)), 3, false⟩, some ⟨(tab inC (rd ++ rj)), 3, false⟩, some ⟨[Value.slice (some ⟨0, 0, none⟩) c.length (unk + 5), .int .i64 nd, .int .i64 nr, .int .i64 hd, .int .i64 hr, .slice (some ⟨1, 0, none⟩) od.length (unk + 1), .slice (some ⟨2, 0, none⟩) rd.length (unk + 1), .int .i64 fl, .int .u32 nx, .int .i64 tg, .int .i64 br, .int .u32 tk, .int .i64 ct, .int .i64 ((c.length : Nat) : Int)], 29, false⟩, some ⟨[Value.slice none 0 0, .int .i64 0, .int .i64 0, .int .i64 0, .int .i64 0, .slice none 0 0, .slice none 0 0, .int .i64 0, .int .u32 0, .int .i64 0, .int .i64 0, .int .u32 0, .int .i64 0, .int .i64 0], 29, false⟩, some ⟨(tab boC (outS (bkU c (outS (outS (outS (List.replicate c.length false) od) rd) ([fl, tg])) (c.length - (i + 1))) ([a9.2.2.1, a9.2.2.2.1]))), 4, false⟩, some ⟨[Value.slice (some ⟨5, 0, none⟩) c.length c.length], 48, false⟩, some ⟨[Value.int .i64 a9.1, .int .i64 a9.2.1, .int .i64 a9.2.2.1, .int .i64 a9.2.2.2.1, .int .u32 a9.2.2.2.2], 50, false⟩, some ⟨[Value.int .i64 a9.2.2.1, .int .i64 a9.2.2.2.1], 3, false⟩], glue_of kr kr ⟨cov_old kr kr, cov_old kr kr, cov_old kr kr, cov_old kr kr, cov_old kr kr, cov_flat 1 kr kr (tab_plain boC_pl _), cov_same 0 (hn_of 0 kr ⟨bk_ren kr kr, bk_flat (tab boC (bkU c (outS (outS (outS (List.replicate c.length false) od) rd) ([fl, tg])) (c.length - (i + 1)))) kr (tab_plain boC_pl _) rfl, bk_flat [Value.int .i64 a9.2.2.1, .int .i64 a9.2.2.2.1] kr (tab_plain inC_pl _) rfl, True.intro⟩) kr kr kr kr kr, cov_old kr kr, cov_same 2 (hn_of 0 kr ⟨bk_ren kr kr, bk_flat (tab boC (bkU c (outS (outS (outS (List.replicate c.length false) od) rd) ([fl, tg])) (c.length - (i + 1)))) kr (tab_plain boC_pl _) rfl, bk_flat [Value.int .i64 a9.2.2.1, .int .i64 a9.2.2.2.1] kr (tab_plain inC_pl _) rfl, True.intro⟩) kr kr kr kr kr, True.intro⟩, rn2_sound _ _ kr, ?_⟩
        refine sd_run 6 ?_
        refine sd_see 37 (.int .i64 (((i : Nat) : Int) - 1)) (see_int (x := (IntKind.i64.wrap (((i : Nat) : Int) - 1))) kr (w64 (by omega) (by omega) (by omega))) ?_
        refine sd_run 2 ?_
        refine sd_inv R1_ kr (hR1_ _ (1 + i) _ (emOf [some 0, some 1, some 2, some 3, some 4, some 5, some 6]) (by omega) ⟨i, rfl, (by omega), rfl⟩ ⟨sub_of kr kr ⟨bk_flat (tab iiC c) kr (tab_plain iiC_pl _) rfl, bk_flat (tab inC (od ++ oj)) kr (tab_plain inC_pl _) rfl, bk_flat (tab inC (rd ++ rj)) kr (tab_plain inC_pl _) rfl, bk_ren kr kr, bk_ren kr kr, bk_flat (tab boC (outS (bkU c (outS (outS (outS (List.replicate c.length false) od) rd) ([fl, tg])) (c.length - (i + 1))) ([a9.2.2.1, a9.2.2.2.1]))) kr (tab_plain boC_pl _) (congrArg (tab boC) (by rw [bkU_step ha9, bkStep_yes hr1 (by omega)])), bk_ren kr kr, True.intro⟩, te_of kr kr⟩ kr)
      · skip
        refine sd_run 5 ?_
        refine sd_see 35 (.bool true) (see_bool kr ((decide_eq_true (by omega)) : ((decide (((i : Nat) : Int) ≥ 0))) = true)) ?_
        refine sd_run 12 ?_
        refine sd_ix 41 (.pointer (some ⟨0, 0 + i * 5, none⟩)) i c.length kr kr kr (by first | omega | (simp; omega)) ?_
        refine sd_ld 42 (.agg #[.int .i64 a9.1, .int .i64 a9.2.1, .int .i64 a9.2.2.1, .int .i64 a9.2.2.2.1, .int .u32 a9.2.2.2.2]) 50 (.pointer (some ⟨0, 0 + i * 5, none⟩)) kr kr kr (ld_row (l := c) (e := 50) (ro := false) (k := i) iiC_len kr kr kr ha9) ?_
        refine sd_run 8 ?_
        refine sd_ix 45 (.pointer (some ⟨5, 0 + i * 1, none⟩)) i c.length kr kr kr (by first | omega | (simp; omega)) ?_
        refine sd_ld 46 (.bool a10) 4 (.pointer (some ⟨5, 0 + i * 1, none⟩)) kr kr kr (ld_cell (l := bkU c (outS (outS (outS (List.replicate c.length false) od) rd) ([fl, tg])) (c.length - (i + 1))) (e := 4) (ro := false) (k := i) (j := 0) boC_len kr kr kr ha10 rfl) ?_
        refine sd_run 1 ?_
        refine sd_see 47 (.bool true) (see_bool kr (hbq : (a10) = true)) ?_
        refine sd_run 3 ?_
        refine sd_see 50 (.bool false) (see_bool kr ((beq_eq_false_iff_ne.2 (by omega)) : (((a9.1 : Int) == 3)) = false)) ?_
        refine sd_run 4 ?_
        refine sd_see 54 (.bool false) (see_bool kr ((beq_eq_false_iff_ne.2 (by omega)) : (((a9.1 : Int) == 4)) = false)) ?_
        refine sd_run 11 ?_
        refine sd_see 37 (.int .i64 (((i : Nat) : Int) - 1)) (see_int (x := (IntKind.i64.wrap (((i : Nat) : Int) - 1))) kr (w64 (by omega) (by omega) (by omega))) ?_
        refine sd_run 2 ?_
        refine sd_inv R1_ kr (hR1_ _ (1 + i) _ (emOf [some 0, some 1, some 2, some 3, some 4, some 5, some 6]) (by omega) ⟨i, rfl, (by omega), rfl⟩ ⟨sub_of kr kr ⟨bk_flat (tab iiC c) kr (tab_plain iiC_pl _) rfl, bk_flat (tab inC (od ++ oj)) kr (tab_plain inC_pl _) rfl, bk_flat (tab inC (rd ++ rj)) kr (tab_plain inC_pl _) rfl, bk_ren kr kr, bk_ren kr kr, bk_flat (tab boC (bkU c (outS (outS (outS (List.replicate c.length false) od) rd) ([fl, tg])) (c.length - (i + 1)))) kr (tab_plain boC_pl _) (congrArg (tab boC) (by rw [bkU_step ha9, bkStep_no (by omega)])), bk_ren kr kr, True.intro⟩, te_of kr kr⟩ kr)
    · skip
      have hr1 := ha10; rw [hbq] at hr1
      refine sd_run 5 ?_
      refine sd_see 35 (.bool true) (see_bool kr ((decide_eq_true (by omega)) : ((decide (((i : Nat) : Int) ≥ 0))) = true)) ?_
      refine sd_run 12 ?_
      refine sd_ix 41 (.pointer (some ⟨0, 0 + i * 5, none⟩)) i c.length kr kr kr (by first | omega | (simp; omega)) ?_
      refine sd_ld 42 (.agg #[.int .i64 a9.1, .int .i64 a9.2.1, .int .i64 a9.2.2.1, .int .i64 a9.2.2.2.1, .int .u32 a9.2.2.2.2]) 50 (.pointer (some ⟨0, 0 + i * 5, none⟩)) kr kr kr (ld_row (l := c) (e := 50) (ro := false) (k := i) iiC_len kr kr kr ha9) ?_
      refine sd_run 8 ?_
      refine sd_ix 45 (.pointer (some ⟨5, 0 + i * 1, none⟩)) i c.length kr kr kr (by first | omega | (simp; omega)) ?_
      refine sd_ld 46 (.bool a10) 4 (.pointer (some ⟨5, 0 + i * 1, none⟩)) kr kr kr (ld_cell (l := bkU c (outS (outS (outS (List.replicate c.length false) od) rd) ([fl, tg])) (c.length - (i + 1))) (e := 4) (ro := false) (k := i) (j := 0) boC_len kr kr kr ha10 rfl) ?_
      refine sd_run 1 ?_
      refine sd_see 47 (.bool false) (see_bool kr (hbq : (a10) = false)) ?_
      refine sd_run 18 ?_
      refine sd_see 37 (.int .i64 (((i : Nat) : Int) - 1)) (see_int (x := (IntKind.i64.wrap (((i : Nat) : Int) - 1))) kr (w64 (by omega) (by omega) (by omega))) ?_
      refine sd_run 2 ?_
      refine sd_inv R1_ kr (hR1_ _ (1 + i) _ (emOf [some 0, some 1, some 2, some 3, some 4, some 5, some 6]) (by omega) ⟨i, rfl, (by omega), rfl⟩ ⟨sub_of kr kr ⟨bk_flat (tab iiC c) kr (tab_plain iiC_pl _) rfl, bk_flat (tab inC (od ++ oj)) kr (tab_plain inC_pl _) rfl, bk_flat (tab inC (rd ++ rj)) kr (tab_plain inC_pl _) rfl, bk_ren kr kr, bk_ren kr kr, bk_flat (tab boC (bkU c (outS (outS (outS (List.replicate c.length false) od) rd) ([fl, tg])) (c.length - (i + 1)))) kr (tab_plain boC_pl _) (congrArg (tab boC) (by rw [bkU_step ha9, bkStep_off hr1])), bk_ren kr kr, True.intro⟩, te_of kr kr⟩ kr)
end Ls
end Go.Proofs.Ytahikechkggbfaa
