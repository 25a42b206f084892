/- Chapter 3: texts. -/
import Derived.Test.YtndjckfnggnddaaDoorGd
import Derived.Test.YtndjckfnggnddaaDoorShelf
import Derived.Test.YtndjckfnggnddaaDoorEvSf
namespace Go.Proofs.YtndjckfnggnddaaDoor
open Go Go.Ev Go.RowKit
set_option linter.unusedVariables false
set_option linter.unusedSimpArgs false
set_option maxRecDepth 100000
namespace Hc
theorem quiet_post [Bs] {P : Program} {m : Map} {H : Heap} {w w' : World} {v : Value} (hr : Rep P m H w) (hq : Quiet w w') (hv : closed v = true) : CallPost P m H w v H (.returned v) w' := by
  refine ⟨v, m, rfl, VR.of_closed hv, ⟨⟨hr.dom, fun b L o hb ho => ?_, hr.inj⟩, ⟨⟨Nat.le_trans hr.bas.ksz hq.size, fun c hc => (hq.block c (Nat.lt_of_lt_of_le hc hr.bas.ksz)).trans (hr.bas.low c hc)⟩, hr.bas.own⟩⟩, hq.os, hq.tape, hq.output, hq.size, fun c hc _ => hq.block c hc, Map.le_refl m, Nat.le_refl _, fun _ _ h => .inl h, fun _ _ h k => .inl ⟨h, k⟩, fun _ _ h => h, fun _ _ h => h, fun _ _ _ => rfl⟩
  have hbk := hr.blk b L o hb ho
  exact hbk.mono (Map.le_refl m) (hq.block _ hbk.lt)
def joinS (xs : List ByteArray) (sep : ByteArray) : ByteArray := ⟨(Lib.join (xs.map (·.data.toList)) sep.data.toList).toArray⟩
/-- strings.Join of a slice that is known, and no other call. -/
noncomputable def joinF (B c : Nat) (xs : List ByteArray) (sep : ByteArray) (e : TypeId) (f : FuncId) (args : Array Value) (H : Heap) : Option (Value × Heap) :=
  open Classical in if f = 25 ∧ args = #[.slice (some ⟨B, 0, none⟩) xs.length c, .string sep] ∧ H.get B = some ⟨xs.map Value.string, e, false⟩ then some (.string (joinS xs sep), H) else none
theorem joinF_eq {B c : Nat} {xs : List ByteArray} {sep : ByteArray} {e : TypeId} {H : Heap} (g : H.get B = some ⟨xs.map Value.string, e, false⟩) : joinF B c xs sep e 25 #[.slice (some ⟨B, 0, none⟩) xs.length c, .string sep] H = some (.string (joinS xs sep), H) := by
  unfold joinF
  exact if_pos ⟨rfl, rfl, g⟩
theorem joinF_ok [Bs] {B c : Nat} {xs : List ByteArray} {sep : ByteArray} {e : TypeId} (hN : xs.length ≤ 140737488355328) (hc : xs.length ≤ c) (hcu : c < unk) (hlen : (joinS xs sep).size ≤ 140737488355328) : CallOk Tryd.prog (joinF B c xs sep e) := by
  intro f args H v H' h hwf m w args' hr hargs
  unfold joinF at h
  split at h
  · rename_i hh
    obtain ⟨rfl, rfl, g⟩ := hh
    cases h
    obtain ⟨y0, hy0, hv0⟩ := hargs.2 0 _ rfl
    obtain ⟨y1, hy1, hv1⟩ := hargs.2 1 _ rfl
    have h1 : y1 = .string sep := hv1.plain_eq rfl
    subst h1
    have hl : args'.toList.length = 2 := hargs.1.symm
    have hargs' : args' = #[y0, .string sep] := by
      apply Array.ext'
      match hL : args'.toList, hl with
      | [a, b], _ => rw [hL] at hy0 hy1; simp at hy0 hy1; subst hy0 hy1; rfl
    subst hargs'
    cases hv0 with
    | same hp => simp [plain] at hp
    | slice hm hcc =>
      rename_i q cap' L
      rcases hcc with ⟨_, rfl, rfl⟩ | ⟨h2, _⟩
      · have hb := hr.blk B L _ hm g
        obtain ⟨l, hvs, hcell⟩ := hb.row
        have hlt := hb.lt
        refine (Tryd.strings_Join L.c (L.o + 0) _ xs sep w (fun j x hx => ?_) hlt hN hc (by simpa [joinS, ByteArray.size] using hlen)).mono fun e w' he => ?_
        · obtain ⟨y, hy, hvy⟩ := hvs.2 j (.string x) (by simp [hx])
          rw [hvy.plain_eq rfl] at hy
          exact hcell j _ hy
        · rw [he.1]
          exact quiet_post hr (Quiet.of_below he.2) rfl
      · omega
  · cases h
theorem joinF_grows {B c : Nat} {xs : List ByteArray} {sep : ByteArray} {e : TypeId} : CallGrows (joinF B c xs sep e) := by
  intro f args H v H' h
  unfold joinF at h
  split at h
  · cases h; exact Grows.refl _
  · cases h
section
variable {P : Program} {T : Tab} {n : Nat} {w0 : World} {Q : Xt → St → Prop} {s : St}
theorem tw_region [Bs] (hP : ProgOk P T) {callf : FuncId → Array Value → Heap → Option (Value × Heap)} (hC : CallOk P callf) (hg : CallGrows callf) {id : Nat} {ops : Array Oper} {draw : Bool} {s' : St} (hok : codeOk T (.region id ops draw) = true) (h : evRegion P T n callf ops draw s = some s') (hq : Q .normal s') : Tw P n w0 (.region id ops draw) Q s := by
  intro m a w hs
  refine wp_mono (region_sound hP hC hg h hok hs.hwf hs.tm hs.size hs.rep) fun e a' w' hp => ?_
  obtain ⟨rfl, m', g1, g2, g3, g4, g5⟩ := hp
  exact ⟨.normal, s', m', rfl, hq, g3, (evOps_grows hg _ _ _ (evRegion_grows hg h)).2 hs.hwf, g1, g2, g4, hs.fr.next hs.rep g5⟩
theorem tw_code [Bs] {c c' : Code} (e : c = c') (h : Tw P n w0 c' Q s) : Tw P n w0 c Q s := by
  rw [e]; exact h
theorem calls_of_twv [Bs] {f : FuncId} {fn : Func} {c : Code} (hP : ProgOk P T) (hf : T.fn f = some fn) (hb : fn.body = some c) {args : Array Value} {v : Value} (hv : closed v = true) (hargs : args.toList.all closed = true) {w : World} (hw : OnBs w)
    (h : ∀ w0, Tw P (args.size + (fn.ntmps - args.size)) w0 c (RetIs T fn.results fun r _ => r = v) ⟨initTm 0 args, ⟨.lf, 0⟩⟩) :
    Calls P f args w fun e w' => e = .returned v ∧ Quiet w w' := by
  obtain ⟨h1, h2, h3⟩ := hP.fns.fn f fn hf
  have hvr : VRs (fun _ => none) args.toList args.toList := ⟨rfl, fun i x hx => ⟨x, hx, VR.of_closed (List.all_eq_true.1 hargs x (List.mem_of_getElem? hx))⟩⟩
  have hr : Rep P (fun _ => none) ⟨.lf, 0⟩ w := ⟨⟨fun b L hb => (by cases hb), fun b L o hb => (by cases hb), fun b1 b2 L1 L2 hb => (by cases hb)⟩, ⟨hw, fun b L hb => (by cases hb)⟩⟩
  have hwf : HWf ⟨.lf, 0⟩ := fun b hb => by simp [Heap.get] at hb; cases b <;> simp [Tr.get] at hb
  have hsat : SatA P (args.size + (fn.ntmps - args.size)) w ⟨initTm 0 args, ⟨.lf, 0⟩⟩ (fun _ => none) { tmps := args ++ Array.replicate (fn.ntmps - args.size) undef, defers := [] } w :=
    ⟨hwf, init_rel hvr _, by simp, hr, ⟨rfl, rfl, rfl, Nat.le_refl _, fun _ _ => rfl, fun b L hb => (by cases hb)⟩⟩
  refine calls_of_wp h1 hb (wp_mono (h w _ _ _ hsat) fun e a' w' hp => ?_)
  obtain ⟨x, s', m', rfl, hq, hd, hs⟩ := hp
  cases x with
  | normal =>
    obtain ⟨v, hv1, rfl⟩ := hq
    obtain ⟨v', k1, k2⟩ := results_sound hP.tab hs.tm hs.rep hv1
    rw [k2.closed_eq hv] at k1
    exact ⟨hd, _, k1, rfl, hs.fr.os, hs.fr.tape, hs.fr.output, hs.fr.size, hs.fr.keep⟩
  | ret =>
    obtain ⟨v, hv1, rfl⟩ := hq
    obtain ⟨v', k1, k2⟩ := results_sound hP.tab hs.tm hs.rep hv1
    rw [k2.closed_eq hv] at k1
    exact ⟨hd, _, k1, rfl, hs.fr.os, hs.fr.tape, hs.fr.output, hs.fr.size, hs.fr.keep⟩
  | exit i => exact hq.elim
end
theorem nameT_size : nameT.all (fun b => b.size.ble 10) = true := by kernel_rfl
theorem nameV_size (op : Int) : (nameV op).size ≤ 10 := by
  unfold nameV
  cases h : inT op
  · simp only [cond_false]; decide
  · simp only [cond_true, List.getD_eq_getElem?_getD]
    cases hk : nameT[op.toNat]? with
    | none => simp only [Option.getD_none]; decide
    | some k =>
      have := List.all_eq_true.1 nameT_size k (List.mem_of_getElem? hk)
      exact Nat.le_of_ble_eq_true this
theorem dec_size (n : Int) (h : u32B n = true) : (dec n).size ≤ 20 := by
  simp only [u32B, Bool.and_eq_true, decide_eq_true_eq] at h
  obtain ⟨k, rfl⟩ : ∃ k : Nat, n = k := ⟨n.toNat, by omega⟩
  rw [dec_eq k (by omega), size_mk, Lib.decDigits_length]
  by_cases h0 : k = 0
  · subst h0; rw [Lib.nDigits_small (by omega)]; omega
  · have := Lib.numDigits_eq k (by omega) (by omega); split at this <;> omega
def sp : ByteArray := ⟨⟨[32]⟩⟩
def textR (op rd ra rb im : Int) : ByteArray := nameV op ++ ⟨⟨[32]⟩⟩ ++ dec rd ++ ⟨⟨[32]⟩⟩ ++ dec ra ++ ⟨⟨[32]⟩⟩ ++ dec rb ++ ⟨⟨[32]⟩⟩ ++ dec im
def textV (op rd ra rb im : Int) : ByteArray := bif rightV op rd ra rb im then textR op rd ra rb im else ⟨⟨[63]⟩⟩
theorem size_app (a b : ByteArray) : (a ++ b).size = a.size + b.size := ByteArray.size_append
theorem joinS_eq (op rd ra rb im : Int) : joinS [nameV op, dec rd, dec ra, dec rb, dec im] ⟨⟨[32]⟩⟩ = textR op rd ra rb im := by
  unfold joinS textR
  apply ByteArray.ext
  simp [Lib.join]
theorem right_regs {op rd ra rb im : Int} (h : rightV op rd ra rb im = true) : inT op = true ∧ regV rd = true ∧ regV ra = true ∧ regV rb = true := by
  rw [right_eq] at h
  simp only [Bool.and_eq_true] at h
  exact ⟨h.1.1.1.1, h.1.1.2, h.1.2, h.2⟩
theorem reg_u32 {n : Int} (h : regV n = true) : u32B n = true := by
  simp only [regV, Bool.and_eq_true, decide_eq_true_eq] at h; simp [u32B]; omega
theorem u32_64 {n : Int} (h : u32B n = true) : u64B n = true := by
  simp only [u32B, Bool.and_eq_true, decide_eq_true_eq] at h; simp [u64B]; omega
theorem textR_size {op rd ra rb im : Int} (h1 : u32B rd = true) (h2 : u32B ra = true) (h3 : u32B rb = true) (h4 : u32B im = true) : (textR op rd ra rb im).size ≤ 100 := by
  have a := dec_size rd h1; have b := dec_size ra h2; have c := dec_size rb h3; have d := dec_size im h4; have e := nameV_size op
  have f : (⟨⟨[32]⟩⟩ : ByteArray).size = 1 := rfl
  unfold textR
  simp only [size_app, f]
  omega
noncomputable def f13b : Code := Tryd.f13.body.getD .skip
noncomputable def f13ba : Code := cl f13b
noncomputable def f13bao : Array Oper := opsOf f13ba
noncomputable def f13bc : Code := cr f13b
noncomputable def f13bca : Code := cl f13bc
noncomputable def f13bcaa : Code := cl f13bca
noncomputable def f13bcaao : Array Oper := opsOf f13bcaa
noncomputable def f13bcac : Code := cr f13bca
noncomputable def f13bcaca : Code := cl f13bcac
noncomputable def f13bcacaa : Code := cl f13bcaca
noncomputable def f13bcacaao : Array Oper := opsOf f13bcacaa
noncomputable def f13bcc : Code := cr f13bc
noncomputable def f13bcca : Code := cl f13bcc
noncomputable def f13bccao : Array Oper := opsOf f13bcca
noncomputable def f13bccc : Code := cr f13bcc
noncomputable def f13bccca : Code := cl f13bccc
noncomputable def f13bcccao : Array Oper := opsOf f13bccca
noncomputable def f13bcccc : Code := cr f13bccc
noncomputable def f13bcccca : Code := cl f13bcccc
noncomputable def f13bccccao : Array Oper := opsOf f13bcccca
theorem f13ba_eq : f13ba = .region 0 f13bao false := by kernel_rfl
theorem f13bcaa_eq : f13bcaa = .region 1 f13bcaao false := by kernel_rfl
theorem f13bcacaa_eq : f13bcacaa = .region 2 f13bcacaao false := by kernel_rfl
theorem f13bcaca_eq : f13bcaca = .seq f13bcacaa .ret := by kernel_rfl
theorem f13bcac_eq : f13bcac = .cond (cop f13bcac) f13bcaca .skip := by kernel_rfl
theorem f13bca_eq : f13bca = .seq f13bcaa f13bcac := by kernel_rfl
theorem f13bcca_eq : f13bcca = .region 3 f13bccao false := by kernel_rfl
theorem f13bccca_eq : f13bccca = .region 4 f13bcccao true := by kernel_rfl
theorem f13bcccca_eq : f13bcccca = .region 5 f13bccccao false := by kernel_rfl
theorem f13bcccc_eq : f13bcccc = .seq f13bcccca .ret := by kernel_rfl
theorem f13bccc_eq : f13bccc = .seq f13bccca f13bcccc := by kernel_rfl
theorem f13bcc_eq : f13bcc = .seq f13bcca f13bccc := by kernel_rfl
theorem f13bc_eq : f13bc = .seq f13bca f13bcc := by kernel_rfl
theorem f13b_eq : f13b = .seq f13ba f13bc := by kernel_rfl
theorem f13_body : Tryd.f13.body = some f13b := by kernel_rfl
theorem f13_fn : T10.fn 13 = some Tryd.f13 := by kernel_rfl
theorem f13_no {op rd ra rb im : Int} (hr : rightV op rd ra rb im = false) : ACall Tryd.prog T10 13 #[.agg #[.int .i64 op, .int .i64 rd, .int .i64 ra, .int .i64 rb, .int .u32 im]] ⟨.lf, 0⟩ fun r _ => r = .string (textV op rd ra rb im) := by
  refine acall_of' 30 (initTm 0 #[.agg #[.int .i64 op, .int .i64 rd, .int .i64 ra, .int .i64 rb, .int .u32 im]]) rfl f13_fn f13_body rfl rfl ?_
  refine aw_code f13b_eq ?_
  refine aw_then ?_
  refine aw_code f13ba_eq ?_
  refine aw_reg ?_
  refine aops_go 2 60 (by kernel_rfl) ?_
  refine aops_end (by kernel_rfl) (then_normal ?_)
  refine aw_code f13bc_eq ?_
  refine aw_then ?_
  refine aw_code f13bca_eq ?_
  refine aw_then ?_
  refine aw_code f13bcaa_eq ?_
  refine aw_reg ?_
  refine aops_go 1 60 (by kernel_rfl) ?_
  refine aops_ask 6 (.bool false) 19 #[.agg #[.int .i64 op, .int .i64 rd, .int .i64 ra, .int .i64 rb, .int .u32 im]] (by kernel_rfl) (by kernel_rfl) (by kernel_rfl) (by kernel_rfl) (show some (Value.bool (rightV op rd ra rb im)) = _ by rw [hr]) ?_
  refine aops_go 1 60 (by kernel_rfl) ?_
  refine aops_end (by kernel_rfl) (then_normal ?_)
  refine aw_code f13bcac_eq ?_
  refine aw_cond (t := true) (by kernel_rfl) ?_
  refine aw_code f13bcaca_eq ?_
  refine aw_then ?_
  refine aw_code f13bcacaa_eq ?_
  refine aw_reg ?_
  refine aops_go 1 60 (by kernel_rfl) ?_
  refine aops_end (by kernel_rfl) (then_normal ?_)
  refine aw_ret (then_ret (bodyQ_ret ⟨.string ⟨⟨[63]⟩⟩, (by kernel_rfl), ?_⟩))
  unfold textV; rw [hr]; rfl
/-- Region 5 of Text: the call of strings.Join. -/
theorem join_step {s : St} {B : Nat} {H : Heap} {callf : FuncId → Array Value → Heap → Option (Value × Heap)} {x : ByteArray} (hH : s.H = H) (s4 : s.tm.get 4 = some (.slice (some ⟨B, 0, none⟩) 5 5)) (hx : callf 25 #[.slice (some ⟨B, 0, none⟩) 5 5, .string ⟨⟨[32]⟩⟩] H = some (.string x, H)) :
    evRegion Tryd.prog T10 30 callf f13bccccao false s = some ⟨(((s.tm.put 4 (some (.slice (some ⟨B, 0, none⟩) 5 5))).put 28 (some (.slice (some ⟨B, 0, none⟩) 5 5))).put 29 (some (.string x))).put 2 (some (.string x)), H⟩ := by
  rw [st_see 4 _ s4]
  obtain ⟨tm, H0⟩ := s
  simp only at hH
  subst hH
  have e : evRegion Tryd.prog T10 30 callf f13bccccao false ⟨tm.put 4 (some (.slice (some ⟨B, 0, none⟩) 5 5)), H0⟩ = (match (match callf 25 #[.slice (some ⟨B, 0, none⟩) 5 5, .string ⟨⟨[32]⟩⟩] H0 with
    | some (v, H') => Go.Ev.fin 30 (some 29) ((tm.put 4 (some (.slice (some ⟨B, 0, none⟩) 5 5))).put 28 (some (.slice (some ⟨B, 0, none⟩) 5 5))) v H'
    | none => none) with
    | some s' => evOps Tryd.prog T10 30 callf f13bccccao (f13bccccao.toList.drop 2) s'
    | none => none) := by kernel_rfl
  refine e.trans ?_
  rw [hx]
  exact (by kernel_rfl : (Go.Ev.evOps Tryd.prog T10 30 callf f13bccccao (f13bccccao.toList.drop 2) ⟨((tm.put 4 (some (.slice (some ⟨B, 0, none⟩) 5 5))).put 28 (some (.slice (some ⟨B, 0, none⟩) 5 5))).put 29 (some (.string x)), H0⟩) = _)
theorem f13_0 [Bs] [Tb] {rd ra rb im : Int} {H : Heap} (hr : rightV 0 rd ra rb im = true) (h1 : regV rd = true) (h2 : regV ra = true) (h3 : regV rb = true) (hi : u32B im = true) (w0 : World) : Tw Tryd.prog 30 w0 f13b (RetIs T10 Tryd.f13.results fun r _ => r = .string (textV 0 rd ra rb im)) ⟨initTm 0 #[.agg #[.int .i64 0, .int .i64 rd, .int .i64 ra, .int .i64 rb, .int .u32 im]], H⟩ := by
  have hi64 := u32_64 hi; have h1u := reg_u32 h1; have h2u := reg_u32 h2; have h3u := reg_u32 h3; have hi2 := hi; simp only [u32B, Bool.and_eq_true, decide_eq_true_eq] at hi2
  refine tw_code f13b_eq ?_
  refine tw_seq (tw_aw progOk10 (by kernel_rfl) ?_)
  refine aw_code f13ba_eq ?_
  refine aw_reg ?_
  obtain ⟨H1_, hH1_⟩ : ∃ x : Heap, x = H.push ⟨[Value.int .i64 0, .int .i64 rd, .int .i64 ra, .int .i64 rb, .int .u32 im], 24, false⟩ := ⟨_, rfl⟩
  have nH1_ : H1_.n = H.n + 1 := by rw [hH1_]; rfl
  refine aops_val 1 (.pointer (some ⟨H.n, 0, none⟩)) H1_ (by kernel_rfl) (by kernel_rfl) (by kernel_rfl) ((by kernel_rfl : _ = some (Res.val (.pointer (some ⟨H.n, 0, none⟩)), H.push ⟨[Value.int .i64 0, .int .i64 rd, .int .i64 ra, .int .i64 rb, .int .u32 im], 24, false⟩)).trans (by rw [← hH1_])) ?_
  refine aops_go 1 60 (by kernel_rfl) ?_
  refine aops_end (by kernel_rfl) (then_normal ?_)
  refine tw_code f13bc_eq ?_
  refine tw_seq (tw_aw progOk10 (by kernel_rfl) ?_)
  refine aw_code f13bca_eq ?_
  refine aw_then ?_
  refine aw_code f13bcaa_eq ?_
  refine aw_reg ?_
  have gH1_H_n : H1_.get (H.n) = some ⟨[Value.int .i64 0, .int .i64 rd, .int .i64 ra, .int .i64 rb, .int .u32 im], 24, false⟩ := by rw [hH1_]; exact (Heap.get_push _ _ _).trans (if_pos rfl)
  refine aops_val 5 (.agg #[.int .i64 0, .int .i64 rd, .int .i64 ra, .int .i64 rb, .int .u32 im]) H1_ (by kernel_rfl) (by kernel_rfl) (by kernel_rfl) ((by kernel_rfl : _ = val (aload T10 24 (.pointer (some ⟨H.n, 0, none⟩)) H1_) H1_).trans (val_of ((aload_at gH1_H_n).trans (by kernel_rfl)))) ?_
  refine aops_ask 6 (.bool true) 19 #[.agg #[.int .i64 0, .int .i64 rd, .int .i64 ra, .int .i64 rb, .int .u32 im]] (by kernel_rfl) (by kernel_rfl) (by kernel_rfl) (by kernel_rfl) (show some (Value.bool (rightV 0 rd ra rb im)) = _ by rw [hr]) ?_
  refine aops_go 1 60 (by kernel_rfl) ?_
  refine aops_end (by kernel_rfl) (then_normal ?_)
  refine aw_code f13bcac_eq ?_
  refine aw_cond (t := false) (by kernel_rfl) ?_
  refine aw_skip (then_normal ?_)
  refine tw_code f13bcc_eq ?_
  refine tw_seq (tw_aw progOk10 (by kernel_rfl) ?_)
  refine aw_code f13bcca_eq ?_
  refine aw_reg ?_
  obtain ⟨H2_, hH2_⟩ : ∃ x : Heap, x = H1_.push ⟨[Value.string ⟨⟨[110, 111, 112]⟩⟩, .string ⟨⟨[108, 105]⟩⟩, .string ⟨⟨[109, 111, 118]⟩⟩, .string ⟨⟨[97, 100, 100]⟩⟩, .string ⟨⟨[115, 117, 98]⟩⟩, .string ⟨⟨[97, 110, 100]⟩⟩, .string ⟨⟨[111, 114]⟩⟩, .string ⟨⟨[120, 111, 114]⟩⟩, .string ⟨⟨[115, 104, 108]⟩⟩, .string ⟨⟨[115, 104, 114]⟩⟩, .string ⟨⟨[109, 117, 108]⟩⟩, .string ⟨⟨[100, 105, 118]⟩⟩, .string ⟨⟨[108, 116, 117]⟩⟩, .string ⟨⟨[101, 113]⟩⟩, .string ⟨⟨[108, 100]⟩⟩, .string ⟨⟨[115, 116]⟩⟩, .string ⟨⟨[98, 101, 113, 122]⟩⟩, .string ⟨⟨[98, 110, 101, 122]⟩⟩, .string ⟨⟨[106, 109, 112]⟩⟩, .string ⟨⟨[101, 120, 105, 116]⟩⟩], 9, false⟩ := ⟨_, rfl⟩
  have nH2_ : H2_.n = H1_.n + 1 := by rw [hH2_]; rfl
  refine aops_val 8 (.slice (some ⟨H1_.n, 0, none⟩) 20 20) H2_ (by kernel_rfl) (by kernel_rfl) (by kernel_rfl) ((by kernel_rfl : _ = some (Res.val (.slice (some ⟨H1_.n, 0, none⟩) 20 20), H1_.push ⟨[Value.string ⟨⟨[110, 111, 112]⟩⟩, .string ⟨⟨[108, 105]⟩⟩, .string ⟨⟨[109, 111, 118]⟩⟩, .string ⟨⟨[97, 100, 100]⟩⟩, .string ⟨⟨[115, 117, 98]⟩⟩, .string ⟨⟨[97, 110, 100]⟩⟩, .string ⟨⟨[111, 114]⟩⟩, .string ⟨⟨[120, 111, 114]⟩⟩, .string ⟨⟨[115, 104, 108]⟩⟩, .string ⟨⟨[115, 104, 114]⟩⟩, .string ⟨⟨[109, 117, 108]⟩⟩, .string ⟨⟨[100, 105, 118]⟩⟩, .string ⟨⟨[108, 116, 117]⟩⟩, .string ⟨⟨[101, 113]⟩⟩, .string ⟨⟨[108, 100]⟩⟩, .string ⟨⟨[115, 116]⟩⟩, .string ⟨⟨[98, 101, 113, 122]⟩⟩, .string ⟨⟨[98, 110, 101, 122]⟩⟩, .string ⟨⟨[106, 109, 112]⟩⟩, .string ⟨⟨[101, 120, 105, 116]⟩⟩], 9, false⟩)).trans (by rw [← hH2_])) ?_
  refine aops_go 1 60 (by kernel_rfl) ?_
  refine aops_end (by kernel_rfl) (then_normal ?_)
  refine tw_code f13bccc_eq ?_
  refine tw_seq (tw_aw progOk10 (by kernel_rfl) ?_)
  refine aw_code f13bccca_eq ?_
  refine aw_drawU (H2_.n) ?_
  refine aopsU_go 2 (by kernel_rfl) ?_
  have gH2_H_n : H2_.get (H.n) = some ⟨[Value.int .i64 0, .int .i64 rd, .int .i64 ra, .int .i64 rb, .int .u32 im], 24, false⟩ := by rw [hH2_, Heap.get_push, if_neg (by omega)]; exact gH1_H_n
  refine aopsU_look 11 (.int .i64 0) (.pointer (some ⟨H.n, 0, none⟩)) (.tmp 10) H2_ (by kernel_rfl) (by kernel_rfl) (by kernel_rfl) (by kernel_rfl) (by kernel_rfl) (by kernel_rfl) ((by kernel_rfl : _ = aload T10 3 (.pointer (some ⟨H.n, 0, none⟩)) H2_).trans ((aload_at gH2_H_n).trans (by kernel_rfl))) (veq_int _ _) (lowB_ptr (by omega)) ((by kernel_rfl : _ = val (aload T10 3 (.pointer (some ⟨H.n, 0, none⟩)) H2_) H2_).trans (val_to ((aload_at gH2_H_n).trans (by kernel_rfl)) (by kernel_rfl))) ?_
  refine aopsU_go 1 (by kernel_rfl) ?_
  have gH2_H1__n : H2_.get (H1_.n) = some ⟨[Value.string ⟨⟨[110, 111, 112]⟩⟩, .string ⟨⟨[108, 105]⟩⟩, .string ⟨⟨[109, 111, 118]⟩⟩, .string ⟨⟨[97, 100, 100]⟩⟩, .string ⟨⟨[115, 117, 98]⟩⟩, .string ⟨⟨[97, 110, 100]⟩⟩, .string ⟨⟨[111, 114]⟩⟩, .string ⟨⟨[120, 111, 114]⟩⟩, .string ⟨⟨[115, 104, 108]⟩⟩, .string ⟨⟨[115, 104, 114]⟩⟩, .string ⟨⟨[109, 117, 108]⟩⟩, .string ⟨⟨[100, 105, 118]⟩⟩, .string ⟨⟨[108, 116, 117]⟩⟩, .string ⟨⟨[101, 113]⟩⟩, .string ⟨⟨[108, 100]⟩⟩, .string ⟨⟨[115, 116]⟩⟩, .string ⟨⟨[98, 101, 113, 122]⟩⟩, .string ⟨⟨[98, 110, 101, 122]⟩⟩, .string ⟨⟨[106, 109, 112]⟩⟩, .string ⟨⟨[101, 120, 105, 116]⟩⟩], 9, false⟩ := by rw [hH2_]; exact (Heap.get_push _ _ _).trans (if_pos rfl)
  refine aopsU_look 13 (.string ⟨⟨[110, 111, 112]⟩⟩) (.pointer (some ⟨H1_.n, 0, none⟩)) (.tmp 12) H2_ (by kernel_rfl) (by kernel_rfl) (by kernel_rfl) (by kernel_rfl) (by kernel_rfl) (by kernel_rfl) ((by kernel_rfl : _ = aload T10 9 (.pointer (some ⟨H1_.n, 0, none⟩)) H2_).trans ((aload_at gH2_H1__n).trans (by kernel_rfl))) (by simp [veq, veqs, veq0]) (lowB_ptr (by omega)) ((by kernel_rfl : _ = val (aload T10 9 (.pointer (some ⟨H1_.n, 0, none⟩)) H2_) H2_).trans (val_to ((aload_at gH2_H1__n).trans (by kernel_rfl)) (by kernel_rfl))) ?_
  refine aopsU_go 1 (by kernel_rfl) ?_
  refine aopsU_look 15 (.int .i64 rd) (.pointer (some ⟨H.n, 1, none⟩)) (.tmp 14) H2_ (by kernel_rfl) (by kernel_rfl) (by kernel_rfl) (by kernel_rfl) (by kernel_rfl) (by kernel_rfl) ((by kernel_rfl : _ = aload T10 3 (.pointer (some ⟨H.n, 1, none⟩)) H2_).trans ((aload_at gH2_H_n).trans (by kernel_rfl))) (veq_int _ _) (lowB_ptr (by omega)) ((by kernel_rfl : _ = val (aload T10 3 (.pointer (some ⟨H.n, 1, none⟩)) H2_) H2_).trans (val_to ((aload_at gH2_H_n).trans (by kernel_rfl)) (by kernel_rfl))) ?_
  refine aopsU_ask 16 (.string (dec rd)) 23 #[.int .i64 rd] (by kernel_rfl) (by kernel_rfl) (by kernel_rfl) (by kernel_rfl) (orc23 rd h1) ?_
  refine aopsU_go 1 (by kernel_rfl) ?_
  refine aopsU_look 18 (.int .i64 ra) (.pointer (some ⟨H.n, 2, none⟩)) (.tmp 17) H2_ (by kernel_rfl) (by kernel_rfl) (by kernel_rfl) (by kernel_rfl) (by kernel_rfl) (by kernel_rfl) ((by kernel_rfl : _ = aload T10 3 (.pointer (some ⟨H.n, 2, none⟩)) H2_).trans ((aload_at gH2_H_n).trans (by kernel_rfl))) (veq_int _ _) (lowB_ptr (by omega)) ((by kernel_rfl : _ = val (aload T10 3 (.pointer (some ⟨H.n, 2, none⟩)) H2_) H2_).trans (val_to ((aload_at gH2_H_n).trans (by kernel_rfl)) (by kernel_rfl))) ?_
  refine aopsU_ask 19 (.string (dec ra)) 23 #[.int .i64 ra] (by kernel_rfl) (by kernel_rfl) (by kernel_rfl) (by kernel_rfl) (orc23 ra h2) ?_
  refine aopsU_go 1 (by kernel_rfl) ?_
  refine aopsU_look 21 (.int .i64 rb) (.pointer (some ⟨H.n, 3, none⟩)) (.tmp 20) H2_ (by kernel_rfl) (by kernel_rfl) (by kernel_rfl) (by kernel_rfl) (by kernel_rfl) (by kernel_rfl) ((by kernel_rfl : _ = aload T10 3 (.pointer (some ⟨H.n, 3, none⟩)) H2_).trans ((aload_at gH2_H_n).trans (by kernel_rfl))) (veq_int _ _) (lowB_ptr (by omega)) ((by kernel_rfl : _ = val (aload T10 3 (.pointer (some ⟨H.n, 3, none⟩)) H2_) H2_).trans (val_to ((aload_at gH2_H_n).trans (by kernel_rfl)) (by kernel_rfl))) ?_
  refine aopsU_ask 22 (.string (dec rb)) 23 #[.int .i64 rb] (by kernel_rfl) (by kernel_rfl) (by kernel_rfl) (by kernel_rfl) (orc23 rb h3) ?_
  refine aopsU_go 1 (by kernel_rfl) ?_
  refine aopsU_look 24 (.int .u32 im) (.pointer (some ⟨H.n, 4, none⟩)) (.tmp 23) H2_ (by kernel_rfl) (by kernel_rfl) (by kernel_rfl) (by kernel_rfl) (by kernel_rfl) (by kernel_rfl) ((by kernel_rfl : _ = aload T10 22 (.pointer (some ⟨H.n, 4, none⟩)) H2_).trans ((aload_at gH2_H_n).trans (by kernel_rfl))) (veq_int _ _) (lowB_ptr (by omega)) ((by kernel_rfl : _ = val (aload T10 22 (.pointer (some ⟨H.n, 4, none⟩)) H2_) H2_).trans (val_to ((aload_at gH2_H_n).trans (by kernel_rfl)) (by kernel_rfl))) ?_
  refine aopsU_pt 25 (.int .u64 (IntKind.u64.wrap im)) (by kernel_rfl) (by kernel_rfl) (by kernel_rfl) (by kernel_rfl) (by kernel_rfl) ?_
  refine aopsU_see 25 (.int .u64 im) (see_int (x := IntKind.u64.wrap im) (by kernel_rfl) (wu64 rfl (by omega) (by omega))) ?_
  refine aopsU_ask 26 (.string (dec im)) 24 #[.int .u64 im, .int .i64 10] (by kernel_rfl) (by kernel_rfl) (by kernel_rfl) (by kernel_rfl) (orc24 im hi64) ?_
  obtain ⟨H3_, hH3_⟩ : ∃ x : Heap, x = H2_.push ⟨[Value.string ⟨⟨[110, 111, 112]⟩⟩, .string (dec rd), .string (dec ra), .string (dec rb), .string (dec im)], 9, false⟩ := ⟨_, rfl⟩
  have nH3_ : H3_.n = H2_.n + 1 := by rw [hH3_]; rfl
  refine aopsU_mk 27 (.slice (some ⟨H2_.n, 0, none⟩) 5 5) H2_ H3_ (by kernel_rfl) (by kernel_rfl) (by kernel_rfl) (by kernel_rfl) ((by kernel_rfl : _ = some (Res.val (.slice (some ⟨H2_.n, 0, none⟩) 5 5), H2_.push ⟨[Value.string ⟨⟨[110, 111, 112]⟩⟩, .string (dec rd), .string (dec ra), .string (dec rb), .string (dec im)], 9, false⟩)).trans (by rw [← hH3_])) (by kernel_rfl) (hH3_ ▸ Up.push (by omega) (Up.refl _) _) ?_
  refine aopsU_go 1 (by kernel_rfl) ?_
  refine aopsU_end (by kernel_rfl) (then_normal ?_)
  have gH3_H2__n : H3_.get (H2_.n) = some ⟨[Value.string ⟨⟨[110, 111, 112]⟩⟩, .string (dec rd), .string (dec ra), .string (dec rb), .string (dec im)], 9, false⟩ := by rw [hH3_]; exact (Heap.get_push _ _ _).trans (if_pos rfl)
  refine tw_code f13bcccc_eq ?_
  refine tw_code (congrArg (Code.seq · .ret) f13bcccca_eq) ?_
  refine tw_seq (tw_region (T := T10) progOk10 (joinF_ok (B := H2_.n) (c := 5) (xs := [nameV 0, dec rd, dec ra, dec rb, dec im]) (sep := ⟨⟨[32]⟩⟩) (e := 9) (by simp) (by simp) (by simp [unk]) (by rw [joinS_eq]; have := textR_size (op := 0) h1u h2u h3u hi; omega)) joinF_grows (by kernel_rfl) (join_step (B := H2_.n) (H := H3_) (by kernel_rfl) (s4 := (by kernel_rfl)) (x := joinS [nameV 0, dec rd, dec ra, dec rb, dec im] ⟨⟨[32]⟩⟩) (hx := joinF_eq (xs := [nameV 0, dec rd, dec ra, dec rb, dec im]) (gH3_H2__n.trans (by kernel_rfl)))) ?_)
  refine then_normal ?_
  exact tw_ret ⟨.string (joinS [nameV 0, dec rd, dec ra, dec rb, dec im] ⟨⟨[32]⟩⟩), by kernel_rfl, by rw [joinS_eq]; unfold textV; rw [hr]; rfl⟩
theorem f13_1 [Bs] [Tb] {rd ra rb im : Int} {H : Heap} (hr : rightV 1 rd ra rb im = true) (h1 : regV rd = true) (h2 : regV ra = true) (h3 : regV rb = true) (hi : u32B im = true) (w0 : World) : Tw Tryd.prog 30 w0 f13b (RetIs T10 Tryd.f13.results fun r _ => r = .string (textV 1 rd ra rb im)) ⟨initTm 0 #[.agg #[.int .i64 1, .int .i64 rd, .int .i64 ra, .int .i64 rb, .int .u32 im]], H⟩ := by
  have hi64 := u32_64 hi; have h1u := reg_u32 h1; have h2u := reg_u32 h2; have h3u := reg_u32 h3; have hi2 := hi; simp only [u32B, Bool.and_eq_true, decide_eq_true_eq] at hi2
  refine tw_code f13b_eq ?_
  refine tw_seq (tw_aw progOk10 (by kernel_rfl) ?_)
  refine aw_code f13ba_eq ?_
  refine aw_reg ?_
  obtain ⟨H1_, hH1_⟩ : ∃ x : Heap, x = H.push ⟨[Value.int .i64 1, .int .i64 rd, .int .i64 ra, .int .i64 rb, .int .u32 im], 24, false⟩ := ⟨_, rfl⟩
  have nH1_ : H1_.n = H.n + 1 := by rw [hH1_]; rfl
  refine aops_val 1 (.pointer (some ⟨H.n, 0, none⟩)) H1_ (by kernel_rfl) (by kernel_rfl) (by kernel_rfl) ((by kernel_rfl : _ = some (Res.val (.pointer (some ⟨H.n, 0, none⟩)), H.push ⟨[Value.int .i64 1, .int .i64 rd, .int .i64 ra, .int .i64 rb, .int .u32 im], 24, false⟩)).trans (by rw [← hH1_])) ?_
  refine aops_go 1 60 (by kernel_rfl) ?_
  refine aops_end (by kernel_rfl) (then_normal ?_)
  refine tw_code f13bc_eq ?_
  refine tw_seq (tw_aw progOk10 (by kernel_rfl) ?_)
  refine aw_code f13bca_eq ?_
  refine aw_then ?_
  refine aw_code f13bcaa_eq ?_
  refine aw_reg ?_
  have gH1_H_n : H1_.get (H.n) = some ⟨[Value.int .i64 1, .int .i64 rd, .int .i64 ra, .int .i64 rb, .int .u32 im], 24, false⟩ := by rw [hH1_]; exact (Heap.get_push _ _ _).trans (if_pos rfl)
  refine aops_val 5 (.agg #[.int .i64 1, .int .i64 rd, .int .i64 ra, .int .i64 rb, .int .u32 im]) H1_ (by kernel_rfl) (by kernel_rfl) (by kernel_rfl) ((by kernel_rfl : _ = val (aload T10 24 (.pointer (some ⟨H.n, 0, none⟩)) H1_) H1_).trans (val_of ((aload_at gH1_H_n).trans (by kernel_rfl)))) ?_
  refine aops_ask 6 (.bool true) 19 #[.agg #[.int .i64 1, .int .i64 rd, .int .i64 ra, .int .i64 rb, .int .u32 im]] (by kernel_rfl) (by kernel_rfl) (by kernel_rfl) (by kernel_rfl) (show some (Value.bool (rightV 1 rd ra rb im)) = _ by rw [hr]) ?_
  refine aops_go 1 60 (by kernel_rfl) ?_
  refine aops_end (by kernel_rfl) (then_normal ?_)
  refine aw_code f13bcac_eq ?_
  refine aw_cond (t := false) (by kernel_rfl) ?_
  refine aw_skip (then_normal ?_)
  refine tw_code f13bcc_eq ?_
  refine tw_seq (tw_aw progOk10 (by kernel_rfl) ?_)
  refine aw_code f13bcca_eq ?_
  refine aw_reg ?_
  obtain ⟨H2_, hH2_⟩ : ∃ x : Heap, x = H1_.push ⟨[Value.string ⟨⟨[110, 111, 112]⟩⟩, .string ⟨⟨[108, 105]⟩⟩, .string ⟨⟨[109, 111, 118]⟩⟩, .string ⟨⟨[97, 100, 100]⟩⟩, .string ⟨⟨[115, 117, 98]⟩⟩, .string ⟨⟨[97, 110, 100]⟩⟩, .string ⟨⟨[111, 114]⟩⟩, .string ⟨⟨[120, 111, 114]⟩⟩, .string ⟨⟨[115, 104, 108]⟩⟩, .string ⟨⟨[115, 104, 114]⟩⟩, .string ⟨⟨[109, 117, 108]⟩⟩, .string ⟨⟨[100, 105, 118]⟩⟩, .string ⟨⟨[108, 116, 117]⟩⟩, .string ⟨⟨[101, 113]⟩⟩, .string ⟨⟨[108, 100]⟩⟩, .string ⟨⟨[115, 116]⟩⟩, .string ⟨⟨[98, 101, 113, 122]⟩⟩, .string ⟨⟨[98, 110, 101, 122]⟩⟩, .string ⟨⟨[106, 109, 112]⟩⟩, .string ⟨⟨[101, 120, 105, 116]⟩⟩], 9, false⟩ := ⟨_, rfl⟩
  have nH2_ : H2_.n = H1_.n + 1 := by rw [hH2_]; rfl
  refine aops_val 8 (.slice (some ⟨H1_.n, 0, none⟩) 20 20) H2_ (by kernel_rfl) (by kernel_rfl) (by kernel_rfl) ((by kernel_rfl : _ = some (Res.val (.slice (some ⟨H1_.n, 0, none⟩) 20 20), H1_.push ⟨[Value.string ⟨⟨[110, 111, 112]⟩⟩, .string ⟨⟨[108, 105]⟩⟩, .string ⟨⟨[109, 111, 118]⟩⟩, .string ⟨⟨[97, 100, 100]⟩⟩, .string ⟨⟨[115, 117, 98]⟩⟩, .string ⟨⟨[97, 110, 100]⟩⟩, .string ⟨⟨[111, 114]⟩⟩, .string ⟨⟨[120, 111, 114]⟩⟩, .string ⟨⟨[115, 104, 108]⟩⟩, .string ⟨⟨[115, 104, 114]⟩⟩, .string ⟨⟨[109, 117, 108]⟩⟩, .string ⟨⟨[100, 105, 118]⟩⟩, .string ⟨⟨[108, 116, 117]⟩⟩, .string ⟨⟨[101, 113]⟩⟩, .string ⟨⟨[108, 100]⟩⟩, .string ⟨⟨[115, 116]⟩⟩, .string ⟨⟨[98, 101, 113, 122]⟩⟩, .string ⟨⟨[98, 110, 101, 122]⟩⟩, .string ⟨⟨[106, 109, 112]⟩⟩, .string ⟨⟨[101, 120, 105, 116]⟩⟩], 9, false⟩)).trans (by rw [← hH2_])) ?_
  refine aops_go 1 60 (by kernel_rfl) ?_
  refine aops_end (by kernel_rfl) (then_normal ?_)
  refine tw_code f13bccc_eq ?_
  refine tw_seq (tw_aw progOk10 (by kernel_rfl) ?_)
  refine aw_code f13bccca_eq ?_
  refine aw_drawU (H2_.n) ?_
  refine aopsU_go 2 (by kernel_rfl) ?_
  have gH2_H_n : H2_.get (H.n) = some ⟨[Value.int .i64 1, .int .i64 rd, .int .i64 ra, .int .i64 rb, .int .u32 im], 24, false⟩ := by rw [hH2_, Heap.get_push, if_neg (by omega)]; exact gH1_H_n
  refine aopsU_look 11 (.int .i64 1) (.pointer (some ⟨H.n, 0, none⟩)) (.tmp 10) H2_ (by kernel_rfl) (by kernel_rfl) (by kernel_rfl) (by kernel_rfl) (by kernel_rfl) (by kernel_rfl) ((by kernel_rfl : _ = aload T10 3 (.pointer (some ⟨H.n, 0, none⟩)) H2_).trans ((aload_at gH2_H_n).trans (by kernel_rfl))) (veq_int _ _) (lowB_ptr (by omega)) ((by kernel_rfl : _ = val (aload T10 3 (.pointer (some ⟨H.n, 0, none⟩)) H2_) H2_).trans (val_to ((aload_at gH2_H_n).trans (by kernel_rfl)) (by kernel_rfl))) ?_
  refine aopsU_go 1 (by kernel_rfl) ?_
  have gH2_H1__n : H2_.get (H1_.n) = some ⟨[Value.string ⟨⟨[110, 111, 112]⟩⟩, .string ⟨⟨[108, 105]⟩⟩, .string ⟨⟨[109, 111, 118]⟩⟩, .string ⟨⟨[97, 100, 100]⟩⟩, .string ⟨⟨[115, 117, 98]⟩⟩, .string ⟨⟨[97, 110, 100]⟩⟩, .string ⟨⟨[111, 114]⟩⟩, .string ⟨⟨[120, 111, 114]⟩⟩, .string ⟨⟨[115, 104, 108]⟩⟩, .string ⟨⟨[115, 104, 114]⟩⟩, .string ⟨⟨[109, 117, 108]⟩⟩, .string ⟨⟨[100, 105, 118]⟩⟩, .string ⟨⟨[108, 116, 117]⟩⟩, .string ⟨⟨[101, 113]⟩⟩, .string ⟨⟨[108, 100]⟩⟩, .string ⟨⟨[115, 116]⟩⟩, .string ⟨⟨[98, 101, 113, 122]⟩⟩, .string ⟨⟨[98, 110, 101, 122]⟩⟩, .string ⟨⟨[106, 109, 112]⟩⟩, .string ⟨⟨[101, 120, 105, 116]⟩⟩], 9, false⟩ := by rw [hH2_]; exact (Heap.get_push _ _ _).trans (if_pos rfl)
  refine aopsU_look 13 (.string ⟨⟨[108, 105]⟩⟩) (.pointer (some ⟨H1_.n, 1, none⟩)) (.tmp 12) H2_ (by kernel_rfl) (by kernel_rfl) (by kernel_rfl) (by kernel_rfl) (by kernel_rfl) (by kernel_rfl) ((by kernel_rfl : _ = aload T10 9 (.pointer (some ⟨H1_.n, 1, none⟩)) H2_).trans ((aload_at gH2_H1__n).trans (by kernel_rfl))) (by simp [veq, veqs, veq0]) (lowB_ptr (by omega)) ((by kernel_rfl : _ = val (aload T10 9 (.pointer (some ⟨H1_.n, 1, none⟩)) H2_) H2_).trans (val_to ((aload_at gH2_H1__n).trans (by kernel_rfl)) (by kernel_rfl))) ?_
  refine aopsU_go 1 (by kernel_rfl) ?_
  refine aopsU_look 15 (.int .i64 rd) (.pointer (some ⟨H.n, 1, none⟩)) (.tmp 14) H2_ (by kernel_rfl) (by kernel_rfl) (by kernel_rfl) (by kernel_rfl) (by kernel_rfl) (by kernel_rfl) ((by kernel_rfl : _ = aload T10 3 (.pointer (some ⟨H.n, 1, none⟩)) H2_).trans ((aload_at gH2_H_n).trans (by kernel_rfl))) (veq_int _ _) (lowB_ptr (by omega)) ((by kernel_rfl : _ = val (aload T10 3 (.pointer (some ⟨H.n, 1, none⟩)) H2_) H2_).trans (val_to ((aload_at gH2_H_n).trans (by kernel_rfl)) (by kernel_rfl))) ?_
  refine aopsU_ask 16 (.string (dec rd)) 23 #[.int .i64 rd] (by kernel_rfl) (by kernel_rfl) (by kernel_rfl) (by kernel_rfl) (orc23 rd h1) ?_
  refine aopsU_go 1 (by kernel_rfl) ?_
  refine aopsU_look 18 (.int .i64 ra) (.pointer (some ⟨H.n, 2, none⟩)) (.tmp 17) H2_ (by kernel_rfl) (by kernel_rfl) (by kernel_rfl) (by kernel_rfl) (by kernel_rfl) (by kernel_rfl) ((by kernel_rfl : _ = aload T10 3 (.pointer (some ⟨H.n, 2, none⟩)) H2_).trans ((aload_at gH2_H_n).trans (by kernel_rfl))) (veq_int _ _) (lowB_ptr (by omega)) ((by kernel_rfl : _ = val (aload T10 3 (.pointer (some ⟨H.n, 2, none⟩)) H2_) H2_).trans (val_to ((aload_at gH2_H_n).trans (by kernel_rfl)) (by kernel_rfl))) ?_
  refine aopsU_ask 19 (.string (dec ra)) 23 #[.int .i64 ra] (by kernel_rfl) (by kernel_rfl) (by kernel_rfl) (by kernel_rfl) (orc23 ra h2) ?_
  refine aopsU_go 1 (by kernel_rfl) ?_
  refine aopsU_look 21 (.int .i64 rb) (.pointer (some ⟨H.n, 3, none⟩)) (.tmp 20) H2_ (by kernel_rfl) (by kernel_rfl) (by kernel_rfl) (by kernel_rfl) (by kernel_rfl) (by kernel_rfl) ((by kernel_rfl : _ = aload T10 3 (.pointer (some ⟨H.n, 3, none⟩)) H2_).trans ((aload_at gH2_H_n).trans (by kernel_rfl))) (veq_int _ _) (lowB_ptr (by omega)) ((by kernel_rfl : _ = val (aload T10 3 (.pointer (some ⟨H.n, 3, none⟩)) H2_) H2_).trans (val_to ((aload_at gH2_H_n).trans (by kernel_rfl)) (by kernel_rfl))) ?_
  refine aopsU_ask 22 (.string (dec rb)) 23 #[.int .i64 rb] (by kernel_rfl) (by kernel_rfl) (by kernel_rfl) (by kernel_rfl) (orc23 rb h3) ?_
  refine aopsU_go 1 (by kernel_rfl) ?_
  refine aopsU_look 24 (.int .u32 im) (.pointer (some ⟨H.n, 4, none⟩)) (.tmp 23) H2_ (by kernel_rfl) (by kernel_rfl) (by kernel_rfl) (by kernel_rfl) (by kernel_rfl) (by kernel_rfl) ((by kernel_rfl : _ = aload T10 22 (.pointer (some ⟨H.n, 4, none⟩)) H2_).trans ((aload_at gH2_H_n).trans (by kernel_rfl))) (veq_int _ _) (lowB_ptr (by omega)) ((by kernel_rfl : _ = val (aload T10 22 (.pointer (some ⟨H.n, 4, none⟩)) H2_) H2_).trans (val_to ((aload_at gH2_H_n).trans (by kernel_rfl)) (by kernel_rfl))) ?_
  refine aopsU_pt 25 (.int .u64 (IntKind.u64.wrap im)) (by kernel_rfl) (by kernel_rfl) (by kernel_rfl) (by kernel_rfl) (by kernel_rfl) ?_
  refine aopsU_see 25 (.int .u64 im) (see_int (x := IntKind.u64.wrap im) (by kernel_rfl) (wu64 rfl (by omega) (by omega))) ?_
  refine aopsU_ask 26 (.string (dec im)) 24 #[.int .u64 im, .int .i64 10] (by kernel_rfl) (by kernel_rfl) (by kernel_rfl) (by kernel_rfl) (orc24 im hi64) ?_
  obtain ⟨H3_, hH3_⟩ : ∃ x : Heap, x = H2_.push ⟨[Value.string ⟨⟨[108, 105]⟩⟩, .string (dec rd), .string (dec ra), .string (dec rb), .string (dec im)], 9, false⟩ := ⟨_, rfl⟩
  have nH3_ : H3_.n = H2_.n + 1 := by rw [hH3_]; rfl
  refine aopsU_mk 27 (.slice (some ⟨H2_.n, 0, none⟩) 5 5) H2_ H3_ (by kernel_rfl) (by kernel_rfl) (by kernel_rfl) (by kernel_rfl) ((by kernel_rfl : _ = some (Res.val (.slice (some ⟨H2_.n, 0, none⟩) 5 5), H2_.push ⟨[Value.string ⟨⟨[108, 105]⟩⟩, .string (dec rd), .string (dec ra), .string (dec rb), .string (dec im)], 9, false⟩)).trans (by rw [← hH3_])) (by kernel_rfl) (hH3_ ▸ Up.push (by omega) (Up.refl _) _) ?_
  refine aopsU_go 1 (by kernel_rfl) ?_
  refine aopsU_end (by kernel_rfl) (then_normal ?_)
  have gH3_H2__n : H3_.get (H2_.n) = some ⟨[Value.string ⟨⟨[108, 105]⟩⟩, .string (dec rd), .string (dec ra), .string (dec rb), .string (dec im)], 9, false⟩ := by rw [hH3_]; exact (Heap.get_push _ _ _).trans (if_pos rfl)
  refine tw_code f13bcccc_eq ?_
  refine tw_code (congrArg (Code.seq · .ret) f13bcccca_eq) ?_
  refine tw_seq (tw_region (T := T10) progOk10 (joinF_ok (B := H2_.n) (c := 5) (xs := [nameV 1, dec rd, dec ra, dec rb, dec im]) (sep := ⟨⟨[32]⟩⟩) (e := 9) (by simp) (by simp) (by simp [unk]) (by rw [joinS_eq]; have := textR_size (op := 1) h1u h2u h3u hi; omega)) joinF_grows (by kernel_rfl) (join_step (B := H2_.n) (H := H3_) (by kernel_rfl) (s4 := (by kernel_rfl)) (x := joinS [nameV 1, dec rd, dec ra, dec rb, dec im] ⟨⟨[32]⟩⟩) (hx := joinF_eq (xs := [nameV 1, dec rd, dec ra, dec rb, dec im]) (gH3_H2__n.trans (by kernel_rfl)))) ?_)
  refine then_normal ?_
  exact tw_ret ⟨.string (joinS [nameV 1, dec rd, dec ra, dec rb, dec im] ⟨⟨[32]⟩⟩), by kernel_rfl, by rw [joinS_eq]; unfold textV; rw [hr]; rfl⟩
theorem f13_2 [Bs] [Tb] {rd ra rb im : Int} {H : Heap} (hr : rightV 2 rd ra rb im = true) (h1 : regV rd = true) (h2 : regV ra = true) (h3 : regV rb = true) (hi : u32B im = true) (w0 : World) : Tw Tryd.prog 30 w0 f13b (RetIs T10 Tryd.f13.results fun r _ => r = .string (textV 2 rd ra rb im)) ⟨initTm 0 #[.agg #[.int .i64 2, .int .i64 rd, .int .i64 ra, .int .i64 rb, .int .u32 im]], H⟩ := by
  have hi64 := u32_64 hi; have h1u := reg_u32 h1; have h2u := reg_u32 h2; have h3u := reg_u32 h3; have hi2 := hi; simp only [u32B, Bool.and_eq_true, decide_eq_true_eq] at hi2
  refine tw_code f13b_eq ?_
  refine tw_seq (tw_aw progOk10 (by kernel_rfl) ?_)
  refine aw_code f13ba_eq ?_
  refine aw_reg ?_
  obtain ⟨H1_, hH1_⟩ : ∃ x : Heap, x = H.push ⟨[Value.int .i64 2, .int .i64 rd, .int .i64 ra, .int .i64 rb, .int .u32 im], 24, false⟩ := ⟨_, rfl⟩
  have nH1_ : H1_.n = H.n + 1 := by rw [hH1_]; rfl
  refine aops_val 1 (.pointer (some ⟨H.n, 0, none⟩)) H1_ (by kernel_rfl) (by kernel_rfl) (by kernel_rfl) ((by kernel_rfl : _ = some (Res.val (.pointer (some ⟨H.n, 0, none⟩)), H.push ⟨[Value.int .i64 2, .int .i64 rd, .int .i64 ra, .int .i64 rb, .int .u32 im], 24, false⟩)).trans (by rw [← hH1_])) ?_
  refine aops_go 1 60 (by kernel_rfl) ?_
  refine aops_end (by kernel_rfl) (then_normal ?_)
  refine tw_code f13bc_eq ?_
  refine tw_seq (tw_aw progOk10 (by kernel_rfl) ?_)
  refine aw_code f13bca_eq ?_
  refine aw_then ?_
  refine aw_code f13bcaa_eq ?_
  refine aw_reg ?_
  have gH1_H_n : H1_.get (H.n) = some ⟨[Value.int .i64 2, .int .i64 rd, .int .i64 ra, .int .i64 rb, .int .u32 im], 24, false⟩ := by rw [hH1_]; exact (Heap.get_push _ _ _).trans (if_pos rfl)
  refine aops_val 5 (.agg #[.int .i64 2, .int .i64 rd, .int .i64 ra, .int .i64 rb, .int .u32 im]) H1_ (by kernel_rfl) (by kernel_rfl) (by kernel_rfl) ((by kernel_rfl : _ = val (aload T10 24 (.pointer (some ⟨H.n, 0, none⟩)) H1_) H1_).trans (val_of ((aload_at gH1_H_n).trans (by kernel_rfl)))) ?_
  refine aops_ask 6 (.bool true) 19 #[.agg #[.int .i64 2, .int .i64 rd, .int .i64 ra, .int .i64 rb, .int .u32 im]] (by kernel_rfl) (by kernel_rfl) (by kernel_rfl) (by kernel_rfl) (show some (Value.bool (rightV 2 rd ra rb im)) = _ by rw [hr]) ?_
  refine aops_go 1 60 (by kernel_rfl) ?_
  refine aops_end (by kernel_rfl) (then_normal ?_)
  refine aw_code f13bcac_eq ?_
  refine aw_cond (t := false) (by kernel_rfl) ?_
  refine aw_skip (then_normal ?_)
  refine tw_code f13bcc_eq ?_
  refine tw_seq (tw_aw progOk10 (by kernel_rfl) ?_)
  refine aw_code f13bcca_eq ?_
  refine aw_reg ?_
  obtain ⟨H2_, hH2_⟩ : ∃ x : Heap, x = H1_.push ⟨[Value.string ⟨⟨[110, 111, 112]⟩⟩, .string ⟨⟨[108, 105]⟩⟩, .string ⟨⟨[109, 111, 118]⟩⟩, .string ⟨⟨[97, 100, 100]⟩⟩, .string ⟨⟨[115, 117, 98]⟩⟩, .string ⟨⟨[97, 110, 100]⟩⟩, .string ⟨⟨[111, 114]⟩⟩, .string ⟨⟨[120, 111, 114]⟩⟩, .string ⟨⟨[115, 104, 108]⟩⟩, .string ⟨⟨[115, 104, 114]⟩⟩, .string ⟨⟨[109, 117, 108]⟩⟩, .string ⟨⟨[100, 105, 118]⟩⟩, .string ⟨⟨[108, 116, 117]⟩⟩, .string ⟨⟨[101, 113]⟩⟩, .string ⟨⟨[108, 100]⟩⟩, .string ⟨⟨[115, 116]⟩⟩, .string ⟨⟨[98, 101, 113, 122]⟩⟩, .string ⟨⟨[98, 110, 101, 122]⟩⟩, .string ⟨⟨[106, 109, 112]⟩⟩, .string ⟨⟨[101, 120, 105, 116]⟩⟩], 9, false⟩ := ⟨_, rfl⟩
  have nH2_ : H2_.n = H1_.n + 1 := by rw [hH2_]; rfl
  refine aops_val 8 (.slice (some ⟨H1_.n, 0, none⟩) 20 20) H2_ (by kernel_rfl) (by kernel_rfl) (by kernel_rfl) ((by kernel_rfl : _ = some (Res.val (.slice (some ⟨H1_.n, 0, none⟩) 20 20), H1_.push ⟨[Value.string ⟨⟨[110, 111, 112]⟩⟩, .string ⟨⟨[108, 105]⟩⟩, .string ⟨⟨[109, 111, 118]⟩⟩, .string ⟨⟨[97, 100, 100]⟩⟩, .string ⟨⟨[115, 117, 98]⟩⟩, .string ⟨⟨[97, 110, 100]⟩⟩, .string ⟨⟨[111, 114]⟩⟩, .string ⟨⟨[120, 111, 114]⟩⟩, .string ⟨⟨[115, 104, 108]⟩⟩, .string ⟨⟨[115, 104, 114]⟩⟩, .string ⟨⟨[109, 117, 108]⟩⟩, .string ⟨⟨[100, 105, 118]⟩⟩, .string ⟨⟨[108, 116, 117]⟩⟩, .string ⟨⟨[101, 113]⟩⟩, .string ⟨⟨[108, 100]⟩⟩, .string ⟨⟨[115, 116]⟩⟩, .string ⟨⟨[98, 101, 113, 122]⟩⟩, .string ⟨⟨[98, 110, 101, 122]⟩⟩, .string ⟨⟨[106, 109, 112]⟩⟩, .string ⟨⟨[101, 120, 105, 116]⟩⟩], 9, false⟩)).trans (by rw [← hH2_])) ?_
  refine aops_go 1 60 (by kernel_rfl) ?_
  refine aops_end (by kernel_rfl) (then_normal ?_)
  refine tw_code f13bccc_eq ?_
  refine tw_seq (tw_aw progOk10 (by kernel_rfl) ?_)
  refine aw_code f13bccca_eq ?_
  refine aw_drawU (H2_.n) ?_
  refine aopsU_go 2 (by kernel_rfl) ?_
  have gH2_H_n : H2_.get (H.n) = some ⟨[Value.int .i64 2, .int .i64 rd, .int .i64 ra, .int .i64 rb, .int .u32 im], 24, false⟩ := by rw [hH2_, Heap.get_push, if_neg (by omega)]; exact gH1_H_n
  refine aopsU_look 11 (.int .i64 2) (.pointer (some ⟨H.n, 0, none⟩)) (.tmp 10) H2_ (by kernel_rfl) (by kernel_rfl) (by kernel_rfl) (by kernel_rfl) (by kernel_rfl) (by kernel_rfl) ((by kernel_rfl : _ = aload T10 3 (.pointer (some ⟨H.n, 0, none⟩)) H2_).trans ((aload_at gH2_H_n).trans (by kernel_rfl))) (veq_int _ _) (lowB_ptr (by omega)) ((by kernel_rfl : _ = val (aload T10 3 (.pointer (some ⟨H.n, 0, none⟩)) H2_) H2_).trans (val_to ((aload_at gH2_H_n).trans (by kernel_rfl)) (by kernel_rfl))) ?_
  refine aopsU_go 1 (by kernel_rfl) ?_
  have gH2_H1__n : H2_.get (H1_.n) = some ⟨[Value.string ⟨⟨[110, 111, 112]⟩⟩, .string ⟨⟨[108, 105]⟩⟩, .string ⟨⟨[109, 111, 118]⟩⟩, .string ⟨⟨[97, 100, 100]⟩⟩, .string ⟨⟨[115, 117, 98]⟩⟩, .string ⟨⟨[97, 110, 100]⟩⟩, .string ⟨⟨[111, 114]⟩⟩, .string ⟨⟨[120, 111, 114]⟩⟩, .string ⟨⟨[115, 104, 108]⟩⟩, .string ⟨⟨[115, 104, 114]⟩⟩, .string ⟨⟨[109, 117, 108]⟩⟩, .string ⟨⟨[100, 105, 118]⟩⟩, .string ⟨⟨[108, 116, 117]⟩⟩, .string ⟨⟨[101, 113]⟩⟩, .string ⟨⟨[108, 100]⟩⟩, .string ⟨⟨[115, 116]⟩⟩, .string ⟨⟨[98, 101, 113, 122]⟩⟩, .string ⟨⟨[98, 110, 101, 122]⟩⟩, .string ⟨⟨[106, 109, 112]⟩⟩, .string ⟨⟨[101, 120, 105, 116]⟩⟩], 9, false⟩ := by rw [hH2_]; exact (Heap.get_push _ _ _).trans (if_pos rfl)
  refine aopsU_look 13 (.string ⟨⟨[109, 111, 118]⟩⟩) (.pointer (some ⟨H1_.n, 2, none⟩)) (.tmp 12) H2_ (by kernel_rfl) (by kernel_rfl) (by kernel_rfl) (by kernel_rfl) (by kernel_rfl) (by kernel_rfl) ((by kernel_rfl : _ = aload T10 9 (.pointer (some ⟨H1_.n, 2, none⟩)) H2_).trans ((aload_at gH2_H1__n).trans (by kernel_rfl))) (by simp [veq, veqs, veq0]) (lowB_ptr (by omega)) ((by kernel_rfl : _ = val (aload T10 9 (.pointer (some ⟨H1_.n, 2, none⟩)) H2_) H2_).trans (val_to ((aload_at gH2_H1__n).trans (by kernel_rfl)) (by kernel_rfl))) ?_
  refine aopsU_go 1 (by kernel_rfl) ?_
  refine aopsU_look 15 (.int .i64 rd) (.pointer (some ⟨H.n, 1, none⟩)) (.tmp 14) H2_ (by kernel_rfl) (by kernel_rfl) (by kernel_rfl) (by kernel_rfl) (by kernel_rfl) (by kernel_rfl) ((by kernel_rfl : _ = aload T10 3 (.pointer (some ⟨H.n, 1, none⟩)) H2_).trans ((aload_at gH2_H_n).trans (by kernel_rfl))) (veq_int _ _) (lowB_ptr (by omega)) ((by kernel_rfl : _ = val (aload T10 3 (.pointer (some ⟨H.n, 1, none⟩)) H2_) H2_).trans (val_to ((aload_at gH2_H_n).trans (by kernel_rfl)) (by kernel_rfl))) ?_
  refine aopsU_ask 16 (.string (dec rd)) 23 #[.int .i64 rd] (by kernel_rfl) (by kernel_rfl) (by kernel_rfl) (by kernel_rfl) (orc23 rd h1) ?_
  refine aopsU_go 1 (by kernel_rfl) ?_
  refine aopsU_look 18 (.int .i64 ra) (.pointer (some ⟨H.n, 2, none⟩)) (.tmp 17) H2_ (by kernel_rfl) (by kernel_rfl) (by kernel_rfl) (by kernel_rfl) (by kernel_rfl) (by kernel_rfl) ((by kernel_rfl : _ = aload T10 3 (.pointer (some ⟨H.n, 2, none⟩)) H2_).trans ((aload_at gH2_H_n).trans (by kernel_rfl))) (veq_int _ _) (lowB_ptr (by omega)) ((by kernel_rfl : _ = val (aload T10 3 (.pointer (some ⟨H.n, 2, none⟩)) H2_) H2_).trans (val_to ((aload_at gH2_H_n).trans (by kernel_rfl)) (by kernel_rfl))) ?_
  refine aopsU_ask 19 (.string (dec ra)) 23 #[.int .i64 ra] (by kernel_rfl) (by kernel_rfl) (by kernel_rfl) (by kernel_rfl) (orc23 ra h2) ?_
  refine aopsU_go 1 (by kernel_rfl) ?_
  refine aopsU_look 21 (.int .i64 rb) (.pointer (some ⟨H.n, 3, none⟩)) (.tmp 20) H2_ (by kernel_rfl) (by kernel_rfl) (by kernel_rfl) (by kernel_rfl) (by kernel_rfl) (by kernel_rfl) ((by kernel_rfl : _ = aload T10 3 (.pointer (some ⟨H.n, 3, none⟩)) H2_).trans ((aload_at gH2_H_n).trans (by kernel_rfl))) (veq_int _ _) (lowB_ptr (by omega)) ((by kernel_rfl : _ = val (aload T10 3 (.pointer (some ⟨H.n, 3, none⟩)) H2_) H2_).trans (val_to ((aload_at gH2_H_n).trans (by kernel_rfl)) (by kernel_rfl))) ?_
  refine aopsU_ask 22 (.string (dec rb)) 23 #[.int .i64 rb] (by kernel_rfl) (by kernel_rfl) (by kernel_rfl) (by kernel_rfl) (orc23 rb h3) ?_
  refine aopsU_go 1 (by kernel_rfl) ?_
  refine aopsU_look 24 (.int .u32 im) (.pointer (some ⟨H.n, 4, none⟩)) (.tmp 23) H2_ (by kernel_rfl) (by kernel_rfl) (by kernel_rfl) (by kernel_rfl) (by kernel_rfl) (by kernel_rfl) ((by kernel_rfl : _ = aload T10 22 (.pointer (some ⟨H.n, 4, none⟩)) H2_).trans ((aload_at gH2_H_n).trans (by kernel_rfl))) (veq_int _ _) (lowB_ptr (by omega)) ((by kernel_rfl : _ = val (aload T10 22 (.pointer (some ⟨H.n, 4, none⟩)) H2_) H2_).trans (val_to ((aload_at gH2_H_n).trans (by kernel_rfl)) (by kernel_rfl))) ?_
  refine aopsU_pt 25 (.int .u64 (IntKind.u64.wrap im)) (by kernel_rfl) (by kernel_rfl) (by kernel_rfl) (by kernel_rfl) (by kernel_rfl) ?_
  refine aopsU_see 25 (.int .u64 im) (see_int (x := IntKind.u64.wrap im) (by kernel_rfl) (wu64 rfl (by omega) (by omega))) ?_
  refine aopsU_ask 26 (.string (dec im)) 24 #[.int .u64 im, .int .i64 10] (by kernel_rfl) (by kernel_rfl) (by kernel_rfl) (by kernel_rfl) (orc24 im hi64) ?_
  obtain ⟨H3_, hH3_⟩ : ∃ x : Heap, x = H2_.push ⟨[Value.string ⟨⟨[109, 111, 118]⟩⟩, .string (dec rd), .string (dec ra), .string (dec rb), .string (dec im)], 9, false⟩ := ⟨_, rfl⟩
  have nH3_ : H3_.n = H2_.n + 1 := by rw [hH3_]; rfl
  refine aopsU_mk 27 (.slice (some ⟨H2_.n, 0, none⟩) 5 5) H2_ H3_ (by kernel_rfl) (by kernel_rfl) (by kernel_rfl) (by kernel_rfl) ((by kernel_rfl : _ = some (Res.val (.slice (some ⟨H2_.n, 0, none⟩) 5 5), H2_.push ⟨[Value.string ⟨⟨[109, 111, 118]⟩⟩, .string (dec rd), .string (dec ra), .string (dec rb), .string (dec im)], 9, false⟩)).trans (by rw [← hH3_])) (by kernel_rfl) (hH3_ ▸ Up.push (by omega) (Up.refl _) _) ?_
  refine aopsU_go 1 (by kernel_rfl) ?_
  refine aopsU_end (by kernel_rfl) (then_normal ?_)
  have gH3_H2__n : H3_.get (H2_.n) = some ⟨[Value.string ⟨⟨[109, 111, 118]⟩⟩, .string (dec rd), .string (dec ra), .string (dec rb), .string (dec im)], 9, false⟩ := by rw [hH3_]; exact (Heap.get_push _ _ _).trans (if_pos rfl)
  refine tw_code f13bcccc_eq ?_
  refine tw_code (congrArg (Code.seq · .ret) f13bcccca_eq) ?_
  refine tw_seq (tw_region (T := T10) progOk10 (joinF_ok (B := H2_.n) (c := 5) (xs := [nameV 2, dec rd, dec ra, dec rb, dec im]) (sep := ⟨⟨[32]⟩⟩) (e := 9) (by simp) (by simp) (by simp [unk]) (by rw [joinS_eq]; have := textR_size (op := 2) h1u h2u h3u hi; omega)) joinF_grows (by kernel_rfl) (join_step (B := H2_.n) (H := H3_) (by kernel_rfl) (s4 := (by kernel_rfl)) (x := joinS [nameV 2, dec rd, dec ra, dec rb, dec im] ⟨⟨[32]⟩⟩) (hx := joinF_eq (xs := [nameV 2, dec rd, dec ra, dec rb, dec im]) (gH3_H2__n.trans (by kernel_rfl)))) ?_)
  refine then_normal ?_
  exact tw_ret ⟨.string (joinS [nameV 2, dec rd, dec ra, dec rb, dec im] ⟨⟨[32]⟩⟩), by kernel_rfl, by rw [joinS_eq]; unfold textV; rw [hr]; rfl⟩
theorem f13_3 [Bs] [Tb] {rd ra rb im : Int} {H : Heap} (hr : rightV 3 rd ra rb im = true) (h1 : regV rd = true) (h2 : regV ra = true) (h3 : regV rb = true) (hi : u32B im = true) (w0 : World) : Tw Tryd.prog 30 w0 f13b (RetIs T10 Tryd.f13.results fun r _ => r = .string (textV 3 rd ra rb im)) ⟨initTm 0 #[.agg #[.int .i64 3, .int .i64 rd, .int .i64 ra, .int .i64 rb, .int .u32 im]], H⟩ := by
  have hi64 := u32_64 hi; have h1u := reg_u32 h1; have h2u := reg_u32 h2; have h3u := reg_u32 h3; have hi2 := hi; simp only [u32B, Bool.and_eq_true, decide_eq_true_eq] at hi2
  refine tw_code f13b_eq ?_
  refine tw_seq (tw_aw progOk10 (by kernel_rfl) ?_)
  refine aw_code f13ba_eq ?_
  refine aw_reg ?_
  obtain ⟨H1_, hH1_⟩ : ∃ x : Heap, x = H.push ⟨[Value.int .i64 3, .int .i64 rd, .int .i64 ra, .int .i64 rb, .int .u32 im], 24, false⟩ := ⟨_, rfl⟩
  have nH1_ : H1_.n = H.n + 1 := by rw [hH1_]; rfl
  refine aops_val 1 (.pointer (some ⟨H.n, 0, none⟩)) H1_ (by kernel_rfl) (by kernel_rfl) (by kernel_rfl) ((by kernel_rfl : _ = some (Res.val (.pointer (some ⟨H.n, 0, none⟩)), H.push ⟨[Value.int .i64 3, .int .i64 rd, .int .i64 ra, .int .i64 rb, .int .u32 im], 24, false⟩)).trans (by rw [← hH1_])) ?_
  refine aops_go 1 60 (by kernel_rfl) ?_
  refine aops_end (by kernel_rfl) (then_normal ?_)
  refine tw_code f13bc_eq ?_
  refine tw_seq (tw_aw progOk10 (by kernel_rfl) ?_)
  refine aw_code f13bca_eq ?_
  refine aw_then ?_
  refine aw_code f13bcaa_eq ?_
  refine aw_reg ?_
  have gH1_H_n : H1_.get (H.n) = some ⟨[Value.int .i64 3, .int .i64 rd, .int .i64 ra, .int .i64 rb, .int .u32 im], 24, false⟩ := by rw [hH1_]; exact (Heap.get_push _ _ _).trans (if_pos rfl)
  refine aops_val 5 (.agg #[.int .i64 3, .int .i64 rd, .int .i64 ra, .int .i64 rb, .int .u32 im]) H1_ (by kernel_rfl) (by kernel_rfl) (by kernel_rfl) ((by kernel_rfl : _ = val (aload T10 24 (.pointer (some ⟨H.n, 0, none⟩)) H1_) H1_).trans (val_of ((aload_at gH1_H_n).trans (by kernel_rfl)))) ?_
  refine aops_ask 6 (.bool true) 19 #[.agg #[.int .i64 3, .int .i64 rd, .int .i64 ra, .int .i64 rb, .int .u32 im]] (by kernel_rfl) (by kernel_rfl) (by kernel_rfl) (by kernel_rfl) (show some (Value.bool (rightV 3 rd ra rb im)) = _ by rw [hr]) ?_
  refine aops_go 1 60 (by kernel_rfl) ?_
  refine aops_end (by kernel_rfl) (then_normal ?_)
  refine aw_code f13bcac_eq ?_
  refine aw_cond (t := false) (by kernel_rfl) ?_
  refine aw_skip (then_normal ?_)
  refine tw_code f13bcc_eq ?_
  refine tw_seq (tw_aw progOk10 (by kernel_rfl) ?_)
  refine aw_code f13bcca_eq ?_
  refine aw_reg ?_
  obtain ⟨H2_, hH2_⟩ : ∃ x : Heap, x = H1_.push ⟨[Value.string ⟨⟨[110, 111, 112]⟩⟩, .string ⟨⟨[108, 105]⟩⟩, .string ⟨⟨[109, 111, 118]⟩⟩, .string ⟨⟨[97, 100, 100]⟩⟩, .string ⟨⟨[115, 117, 98]⟩⟩, .string ⟨⟨[97, 110, 100]⟩⟩, .string ⟨⟨[111, 114]⟩⟩, .string ⟨⟨[120, 111, 114]⟩⟩, .string ⟨⟨[115, 104, 108]⟩⟩, .string ⟨⟨[115, 104, 114]⟩⟩, .string ⟨⟨[109, 117, 108]⟩⟩, .string ⟨⟨[100, 105, 118]⟩⟩, .string ⟨⟨[108, 116, 117]⟩⟩, .string ⟨⟨[101, 113]⟩⟩, .string ⟨⟨[108, 100]⟩⟩, .string ⟨⟨[115, 116]⟩⟩, .string ⟨⟨[98, 101, 113, 122]⟩⟩, .string ⟨⟨[98, 110, 101, 122]⟩⟩, .string ⟨⟨[106, 109, 112]⟩⟩, .string ⟨⟨[101, 120, 105, 116]⟩⟩], 9, false⟩ := ⟨_, rfl⟩
  have nH2_ : H2_.n = H1_.n + 1 := by rw [hH2_]; rfl
  refine aops_val 8 (.slice (some ⟨H1_.n, 0, none⟩) 20 20) H2_ (by kernel_rfl) (by kernel_rfl) (by kernel_rfl) ((by kernel_rfl : _ = some (Res.val (.slice (some ⟨H1_.n, 0, none⟩) 20 20), H1_.push ⟨[Value.string ⟨⟨[110, 111, 112]⟩⟩, .string ⟨⟨[108, 105]⟩⟩, .string ⟨⟨[109, 111, 118]⟩⟩, .string ⟨⟨[97, 100, 100]⟩⟩, .string ⟨⟨[115, 117, 98]⟩⟩, .string ⟨⟨[97, 110, 100]⟩⟩, .string ⟨⟨[111, 114]⟩⟩, .string ⟨⟨[120, 111, 114]⟩⟩, .string ⟨⟨[115, 104, 108]⟩⟩, .string ⟨⟨[115, 104, 114]⟩⟩, .string ⟨⟨[109, 117, 108]⟩⟩, .string ⟨⟨[100, 105, 118]⟩⟩, .string ⟨⟨[108, 116, 117]⟩⟩, .string ⟨⟨[101, 113]⟩⟩, .string ⟨⟨[108, 100]⟩⟩, .string ⟨⟨[115, 116]⟩⟩, .string ⟨⟨[98, 101, 113, 122]⟩⟩, .string ⟨⟨[98, 110, 101, 122]⟩⟩, .string ⟨⟨[106, 109, 112]⟩⟩, .string ⟨⟨[101, 120, 105, 116]⟩⟩], 9, false⟩)).trans (by rw [← hH2_])) ?_
  refine aops_go 1 60 (by kernel_rfl) ?_
  refine aops_end (by kernel_rfl) (then_normal ?_)
  refine tw_code f13bccc_eq ?_
  refine tw_seq (tw_aw progOk10 (by kernel_rfl) ?_)
  refine aw_code f13bccca_eq ?_
  refine aw_drawU (H2_.n) ?_
  refine aopsU_go 2 (by kernel_rfl) ?_
  have gH2_H_n : H2_.get (H.n) = some ⟨[Value.int .i64 3, .int .i64 rd, .int .i64 ra, .int .i64 rb, .int .u32 im], 24, false⟩ := by rw [hH2_, Heap.get_push, if_neg (by omega)]; exact gH1_H_n
  refine aopsU_look 11 (.int .i64 3) (.pointer (some ⟨H.n, 0, none⟩)) (.tmp 10) H2_ (by kernel_rfl) (by kernel_rfl) (by kernel_rfl) (by kernel_rfl) (by kernel_rfl) (by kernel_rfl) ((by kernel_rfl : _ = aload T10 3 (.pointer (some ⟨H.n, 0, none⟩)) H2_).trans ((aload_at gH2_H_n).trans (by kernel_rfl))) (veq_int _ _) (lowB_ptr (by omega)) ((by kernel_rfl : _ = val (aload T10 3 (.pointer (some ⟨H.n, 0, none⟩)) H2_) H2_).trans (val_to ((aload_at gH2_H_n).trans (by kernel_rfl)) (by kernel_rfl))) ?_
  refine aopsU_go 1 (by kernel_rfl) ?_
  have gH2_H1__n : H2_.get (H1_.n) = some ⟨[Value.string ⟨⟨[110, 111, 112]⟩⟩, .string ⟨⟨[108, 105]⟩⟩, .string ⟨⟨[109, 111, 118]⟩⟩, .string ⟨⟨[97, 100, 100]⟩⟩, .string ⟨⟨[115, 117, 98]⟩⟩, .string ⟨⟨[97, 110, 100]⟩⟩, .string ⟨⟨[111, 114]⟩⟩, .string ⟨⟨[120, 111, 114]⟩⟩, .string ⟨⟨[115, 104, 108]⟩⟩, .string ⟨⟨[115, 104, 114]⟩⟩, .string ⟨⟨[109, 117, 108]⟩⟩, .string ⟨⟨[100, 105, 118]⟩⟩, .string ⟨⟨[108, 116, 117]⟩⟩, .string ⟨⟨[101, 113]⟩⟩, .string ⟨⟨[108, 100]⟩⟩, .string ⟨⟨[115, 116]⟩⟩, .string ⟨⟨[98, 101, 113, 122]⟩⟩, .string ⟨⟨[98, 110, 101, 122]⟩⟩, .string ⟨⟨[106, 109, 112]⟩⟩, .string ⟨⟨[101, 120, 105, 116]⟩⟩], 9, false⟩ := by rw [hH2_]; exact (Heap.get_push _ _ _).trans (if_pos rfl)
  refine aopsU_look 13 (.string ⟨⟨[97, 100, 100]⟩⟩) (.pointer (some ⟨H1_.n, 3, none⟩)) (.tmp 12) H2_ (by kernel_rfl) (by kernel_rfl) (by kernel_rfl) (by kernel_rfl) (by kernel_rfl) (by kernel_rfl) ((by kernel_rfl : _ = aload T10 9 (.pointer (some ⟨H1_.n, 3, none⟩)) H2_).trans ((aload_at gH2_H1__n).trans (by kernel_rfl))) (by simp [veq, veqs, veq0]) (lowB_ptr (by omega)) ((by kernel_rfl : _ = val (aload T10 9 (.pointer (some ⟨H1_.n, 3, none⟩)) H2_) H2_).trans (val_to ((aload_at gH2_H1__n).trans (by kernel_rfl)) (by kernel_rfl))) ?_
  refine aopsU_go 1 (by kernel_rfl) ?_
  refine aopsU_look 15 (.int .i64 rd) (.pointer (some ⟨H.n, 1, none⟩)) (.tmp 14) H2_ (by kernel_rfl) (by kernel_rfl) (by kernel_rfl) (by kernel_rfl) (by kernel_rfl) (by kernel_rfl) ((by kernel_rfl : _ = aload T10 3 (.pointer (some ⟨H.n, 1, none⟩)) H2_).trans ((aload_at gH2_H_n).trans (by kernel_rfl))) (veq_int _ _) (lowB_ptr (by omega)) ((by kernel_rfl : _ = val (aload T10 3 (.pointer (some ⟨H.n, 1, none⟩)) H2_) H2_).trans (val_to ((aload_at gH2_H_n).trans (by kernel_rfl)) (by kernel_rfl))) ?_
  refine aopsU_ask 16 (.string (dec rd)) 23 #[.int .i64 rd] (by kernel_rfl) (by kernel_rfl) (by kernel_rfl) (by kernel_rfl) (orc23 rd h1) ?_
  refine aopsU_go 1 (by kernel_rfl) ?_
  refine aopsU_look 18 (.int .i64 ra) (.pointer (some ⟨H.n, 2, none⟩)) (.tmp 17) H2_ (by kernel_rfl) (by kernel_rfl) (by kernel_rfl) (by kernel_rfl) (by kernel_rfl) (by kernel_rfl) ((by kernel_rfl : _ = aload T10 3 (.pointer (some ⟨H.n, 2, none⟩)) H2_).trans ((aload_at gH2_H_n).trans (by kernel_rfl))) (veq_int _ _) (lowB_ptr (by omega)) ((by kernel_rfl : _ = val (aload T10 3 (.pointer (some ⟨H.n, 2, none⟩)) H2_) H2_).trans (val_to ((aload_at gH2_H_n).trans (by kernel_rfl)) (by kernel_rfl))) ?_
  refine aopsU_ask 19 (.string (dec ra)) 23 #[.int .i64 ra] (by kernel_rfl) (by kernel_rfl) (by kernel_rfl) (by kernel_rfl) (orc23 ra h2) ?_
  refine aopsU_go 1 (by kernel_rfl) ?_
  refine aopsU_look 21 (.int .i64 rb) (.pointer (some ⟨H.n, 3, none⟩)) (.tmp 20) H2_ (by kernel_rfl) (by kernel_rfl) (by kernel_rfl) (by kernel_rfl) (by kernel_rfl) (by kernel_rfl) ((by kernel_rfl : _ = aload T10 3 (.pointer (some ⟨H.n, 3, none⟩)) H2_).trans ((aload_at gH2_H_n).trans (by kernel_rfl))) (veq_int _ _) (lowB_ptr (by omega)) ((by kernel_rfl : _ = val (aload T10 3 (.pointer (some ⟨H.n, 3, none⟩)) H2_) H2_).trans (val_to ((aload_at gH2_H_n).trans (by kernel_rfl)) (by kernel_rfl))) ?_
  refine aopsU_ask 22 (.string (dec rb)) 23 #[.int .i64 rb] (by kernel_rfl) (by kernel_rfl) (by kernel_rfl) (by kernel_rfl) (orc23 rb h3) ?_
  refine aopsU_go 1 (by kernel_rfl) ?_
  refine aopsU_look 24 (.int .u32 im) (.pointer (some ⟨H.n, 4, none⟩)) (.tmp 23) H2_ (by kernel_rfl) (by kernel_rfl) (by kernel_rfl) (by kernel_rfl) (by kernel_rfl) (by kernel_rfl) ((by kernel_rfl : _ = aload T10 22 (.pointer (some ⟨H.n, 4, none⟩)) H2_).trans ((aload_at gH2_H_n).trans (by kernel_rfl))) (veq_int _ _) (lowB_ptr (by omega)) ((by kernel_rfl : _ = val (aload T10 22 (.pointer (some ⟨H.n, 4, none⟩)) H2_) H2_).trans (val_to ((aload_at gH2_H_n).trans (by kernel_rfl)) (by kernel_rfl))) ?_
  refine aopsU_pt 25 (.int .u64 (IntKind.u64.wrap im)) (by kernel_rfl) (by kernel_rfl) (by kernel_rfl) (by kernel_rfl) (by kernel_rfl) ?_
  refine aopsU_see 25 (.int .u64 im) (see_int (x := IntKind.u64.wrap im) (by kernel_rfl) (wu64 rfl (by omega) (by omega))) ?_
  refine aopsU_ask 26 (.string (dec im)) 24 #[.int .u64 im, .int .i64 10] (by kernel_rfl) (by kernel_rfl) (by kernel_rfl) (by kernel_rfl) (orc24 im hi64) ?_
  obtain ⟨H3_, hH3_⟩ : ∃ x : Heap, x = H2_.push ⟨[Value.string ⟨⟨[97, 100, 100]⟩⟩, .string (dec rd), .string (dec ra), .string (dec rb), .string (dec im)], 9, false⟩ := ⟨_, rfl⟩
  have nH3_ : H3_.n = H2_.n + 1 := by rw [hH3_]; rfl
  refine aopsU_mk 27 (.slice (some ⟨H2_.n, 0, none⟩) 5 5) H2_ H3_ (by kernel_rfl) (by kernel_rfl) (by kernel_rfl) (by kernel_rfl) ((by kernel_rfl : _ = some (Res.val (.slice (some ⟨H2_.n, 0, none⟩) 5 5), H2_.push ⟨[Value.string ⟨⟨[97, 100, 100]⟩⟩, .string (dec rd), .string (dec ra), .string (dec rb), .string (dec im)], 9, false⟩)).trans (by rw [← hH3_])) (by kernel_rfl) (hH3_ ▸ Up.push (by omega) (Up.refl _) _) ?_
  refine aopsU_go 1 (by kernel_rfl) ?_
  refine aopsU_end (by kernel_rfl) (then_normal ?_)
  have gH3_H2__n : H3_.get (H2_.n) = some ⟨[Value.string ⟨⟨[97, 100, 100]⟩⟩, .string (dec rd), .string (dec ra), .string (dec rb), .string (dec im)], 9, false⟩ := by rw [hH3_]; exact (Heap.get_push _ _ _).trans (if_pos rfl)
  refine tw_code f13bcccc_eq ?_
  refine tw_code (congrArg (Code.seq · .ret) f13bcccca_eq) ?_
  refine tw_seq (tw_region (T := T10) progOk10 (joinF_ok (B := H2_.n) (c := 5) (xs := [nameV 3, dec rd, dec ra, dec rb, dec im]) (sep := ⟨⟨[32]⟩⟩) (e := 9) (by simp) (by simp) (by simp [unk]) (by rw [joinS_eq]; have := textR_size (op := 3) h1u h2u h3u hi; omega)) joinF_grows (by kernel_rfl) (join_step (B := H2_.n) (H := H3_) (by kernel_rfl) (s4 := (by kernel_rfl)) (x := joinS [nameV 3, dec rd, dec ra, dec rb, dec im] ⟨⟨[32]⟩⟩) (hx := joinF_eq (xs := [nameV 3, dec rd, dec ra, dec rb, dec im]) (gH3_H2__n.trans (by kernel_rfl)))) ?_)
  refine then_normal ?_
  exact tw_ret ⟨.string (joinS [nameV 3, dec rd, dec ra, dec rb, dec im] ⟨⟨[32]⟩⟩), by kernel_rfl, by rw [joinS_eq]; unfold textV; rw [hr]; rfl⟩
theorem f13_4 [Bs] [Tb] {rd ra rb im : Int} {H : Heap} (hr : rightV 4 rd ra rb im = true) (h1 : regV rd = true) (h2 : regV ra = true) (h3 : regV rb = true) (hi : u32B im = true) (w0 : World) : Tw Tryd.prog 30 w0 f13b (RetIs T10 Tryd.f13.results fun r _ => r = .string (textV 4 rd ra rb im)) ⟨initTm 0 #[.agg #[.int .i64 4, .int .i64 rd, .int .i64 ra, .int .i64 rb, .int .u32 im]], H⟩ := by
  have hi64 := u32_64 hi; have h1u := reg_u32 h1; have h2u := reg_u32 h2; have h3u := reg_u32 h3; have hi2 := hi; simp only [u32B, Bool.and_eq_true, decide_eq_true_eq] at hi2
  refine tw_code f13b_eq ?_
  refine tw_seq (tw_aw progOk10 (by kernel_rfl) ?_)
  refine aw_code f13ba_eq ?_
  refine aw_reg ?_
  obtain ⟨H1_, hH1_⟩ : ∃ x : Heap, x = H.push ⟨[Value.int .i64 4, .int .i64 rd, .int .i64 ra, .int .i64 rb, .int .u32 im], 24, false⟩ := ⟨_, rfl⟩
  have nH1_ : H1_.n = H.n + 1 := by rw [hH1_]; rfl
  refine aops_val 1 (.pointer (some ⟨H.n, 0, none⟩)) H1_ (by kernel_rfl) (by kernel_rfl) (by kernel_rfl) ((by kernel_rfl : _ = some (Res.val (.pointer (some ⟨H.n, 0, none⟩)), H.push ⟨[Value.int .i64 4, .int .i64 rd, .int .i64 ra, .int .i64 rb, .int .u32 im], 24, false⟩)).trans (by rw [← hH1_])) ?_
  refine aops_go 1 60 (by kernel_rfl) ?_
  refine aops_end (by kernel_rfl) (then_normal ?_)
  refine tw_code f13bc_eq ?_
  refine tw_seq (tw_aw progOk10 (by kernel_rfl) ?_)
  refine aw_code f13bca_eq ?_
  refine aw_then ?_
  refine aw_code f13bcaa_eq ?_
  refine aw_reg ?_
  have gH1_H_n : H1_.get (H.n) = some ⟨[Value.int .i64 4, .int .i64 rd, .int .i64 ra, .int .i64 rb, .int .u32 im], 24, false⟩ := by rw [hH1_]; exact (Heap.get_push _ _ _).trans (if_pos rfl)
  refine aops_val 5 (.agg #[.int .i64 4, .int .i64 rd, .int .i64 ra, .int .i64 rb, .int .u32 im]) H1_ (by kernel_rfl) (by kernel_rfl) (by kernel_rfl) ((by kernel_rfl : _ = val (aload T10 24 (.pointer (some ⟨H.n, 0, none⟩)) H1_) H1_).trans (val_of ((aload_at gH1_H_n).trans (by kernel_rfl)))) ?_
  refine aops_ask 6 (.bool true) 19 #[.agg #[.int .i64 4, .int .i64 rd, .int .i64 ra, .int .i64 rb, .int .u32 im]] (by kernel_rfl) (by kernel_rfl) (by kernel_rfl) (by kernel_rfl) (show some (Value.bool (rightV 4 rd ra rb im)) = _ by rw [hr]) ?_
  refine aops_go 1 60 (by kernel_rfl) ?_
  refine aops_end (by kernel_rfl) (then_normal ?_)
  refine aw_code f13bcac_eq ?_
  refine aw_cond (t := false) (by kernel_rfl) ?_
  refine aw_skip (then_normal ?_)
  refine tw_code f13bcc_eq ?_
  refine tw_seq (tw_aw progOk10 (by kernel_rfl) ?_)
  refine aw_code f13bcca_eq ?_
  refine aw_reg ?_
  obtain ⟨H2_, hH2_⟩ : ∃ x : Heap, x = H1_.push ⟨[Value.string ⟨⟨[110, 111, 112]⟩⟩, .string ⟨⟨[108, 105]⟩⟩, .string ⟨⟨[109, 111, 118]⟩⟩, .string ⟨⟨[97, 100, 100]⟩⟩, .string ⟨⟨[115, 117, 98]⟩⟩, .string ⟨⟨[97, 110, 100]⟩⟩, .string ⟨⟨[111, 114]⟩⟩, .string ⟨⟨[120, 111, 114]⟩⟩, .string ⟨⟨[115, 104, 108]⟩⟩, .string ⟨⟨[115, 104, 114]⟩⟩, .string ⟨⟨[109, 117, 108]⟩⟩, .string ⟨⟨[100, 105, 118]⟩⟩, .string ⟨⟨[108, 116, 117]⟩⟩, .string ⟨⟨[101, 113]⟩⟩, .string ⟨⟨[108, 100]⟩⟩, .string ⟨⟨[115, 116]⟩⟩, .string ⟨⟨[98, 101, 113, 122]⟩⟩, .string ⟨⟨[98, 110, 101, 122]⟩⟩, .string ⟨⟨[106, 109, 112]⟩⟩, .string ⟨⟨[101, 120, 105, 116]⟩⟩], 9, false⟩ := ⟨_, rfl⟩
  have nH2_ : H2_.n = H1_.n + 1 := by rw [hH2_]; rfl
  refine aops_val 8 (.slice (some ⟨H1_.n, 0, none⟩) 20 20) H2_ (by kernel_rfl) (by kernel_rfl) (by kernel_rfl) ((by kernel_rfl : _ = some (Res.val (.slice (some ⟨H1_.n, 0, none⟩) 20 20), H1_.push ⟨[Value.string ⟨⟨[110, 111, 112]⟩⟩, .string ⟨⟨[108, 105]⟩⟩, .string ⟨⟨[109, 111, 118]⟩⟩, .string ⟨⟨[97, 100, 100]⟩⟩, .string ⟨⟨[115, 117, 98]⟩⟩, .string ⟨⟨[97, 110, 100]⟩⟩, .string ⟨⟨[111, 114]⟩⟩, .string ⟨⟨[120, 111, 114]⟩⟩, .string ⟨⟨[115, 104, 108]⟩⟩, .string ⟨⟨[115, 104, 114]⟩⟩, .string ⟨⟨[109, 117, 108]⟩⟩, .string ⟨⟨[100, 105, 118]⟩⟩, .string ⟨⟨[108, 116, 117]⟩⟩, .string ⟨⟨[101, 113]⟩⟩, .string ⟨⟨[108, 100]⟩⟩, .string ⟨⟨[115, 116]⟩⟩, .string ⟨⟨[98, 101, 113, 122]⟩⟩, .string ⟨⟨[98, 110, 101, 122]⟩⟩, .string ⟨⟨[106, 109, 112]⟩⟩, .string ⟨⟨[101, 120, 105, 116]⟩⟩], 9, false⟩)).trans (by rw [← hH2_])) ?_
  refine aops_go 1 60 (by kernel_rfl) ?_
  refine aops_end (by kernel_rfl) (then_normal ?_)
  refine tw_code f13bccc_eq ?_
  refine tw_seq (tw_aw progOk10 (by kernel_rfl) ?_)
  refine aw_code f13bccca_eq ?_
  refine aw_drawU (H2_.n) ?_
  refine aopsU_go 2 (by kernel_rfl) ?_
  have gH2_H_n : H2_.get (H.n) = some ⟨[Value.int .i64 4, .int .i64 rd, .int .i64 ra, .int .i64 rb, .int .u32 im], 24, false⟩ := by rw [hH2_, Heap.get_push, if_neg (by omega)]; exact gH1_H_n
  refine aopsU_look 11 (.int .i64 4) (.pointer (some ⟨H.n, 0, none⟩)) (.tmp 10) H2_ (by kernel_rfl) (by kernel_rfl) (by kernel_rfl) (by kernel_rfl) (by kernel_rfl) (by kernel_rfl) ((by kernel_rfl : _ = aload T10 3 (.pointer (some ⟨H.n, 0, none⟩)) H2_).trans ((aload_at gH2_H_n).trans (by kernel_rfl))) (veq_int _ _) (lowB_ptr (by omega)) ((by kernel_rfl : _ = val (aload T10 3 (.pointer (some ⟨H.n, 0, none⟩)) H2_) H2_).trans (val_to ((aload_at gH2_H_n).trans (by kernel_rfl)) (by kernel_rfl))) ?_
  refine aopsU_go 1 (by kernel_rfl) ?_
  have gH2_H1__n : H2_.get (H1_.n) = some ⟨[Value.string ⟨⟨[110, 111, 112]⟩⟩, .string ⟨⟨[108, 105]⟩⟩, .string ⟨⟨[109, 111, 118]⟩⟩, .string ⟨⟨[97, 100, 100]⟩⟩, .string ⟨⟨[115, 117, 98]⟩⟩, .string ⟨⟨[97, 110, 100]⟩⟩, .string ⟨⟨[111, 114]⟩⟩, .string ⟨⟨[120, 111, 114]⟩⟩, .string ⟨⟨[115, 104, 108]⟩⟩, .string ⟨⟨[115, 104, 114]⟩⟩, .string ⟨⟨[109, 117, 108]⟩⟩, .string ⟨⟨[100, 105, 118]⟩⟩, .string ⟨⟨[108, 116, 117]⟩⟩, .string ⟨⟨[101, 113]⟩⟩, .string ⟨⟨[108, 100]⟩⟩, .string ⟨⟨[115, 116]⟩⟩, .string ⟨⟨[98, 101, 113, 122]⟩⟩, .string ⟨⟨[98, 110, 101, 122]⟩⟩, .string ⟨⟨[106, 109, 112]⟩⟩, .string ⟨⟨[101, 120, 105, 116]⟩⟩], 9, false⟩ := by rw [hH2_]; exact (Heap.get_push _ _ _).trans (if_pos rfl)
  refine aopsU_look 13 (.string ⟨⟨[115, 117, 98]⟩⟩) (.pointer (some ⟨H1_.n, 4, none⟩)) (.tmp 12) H2_ (by kernel_rfl) (by kernel_rfl) (by kernel_rfl) (by kernel_rfl) (by kernel_rfl) (by kernel_rfl) ((by kernel_rfl : _ = aload T10 9 (.pointer (some ⟨H1_.n, 4, none⟩)) H2_).trans ((aload_at gH2_H1__n).trans (by kernel_rfl))) (by simp [veq, veqs, veq0]) (lowB_ptr (by omega)) ((by kernel_rfl : _ = val (aload T10 9 (.pointer (some ⟨H1_.n, 4, none⟩)) H2_) H2_).trans (val_to ((aload_at gH2_H1__n).trans (by kernel_rfl)) (by kernel_rfl))) ?_
  refine aopsU_go 1 (by kernel_rfl) ?_
  refine aopsU_look 15 (.int .i64 rd) (.pointer (some ⟨H.n, 1, none⟩)) (.tmp 14) H2_ (by kernel_rfl) (by kernel_rfl) (by kernel_rfl) (by kernel_rfl) (by kernel_rfl) (by kernel_rfl) ((by kernel_rfl : _ = aload T10 3 (.pointer (some ⟨H.n, 1, none⟩)) H2_).trans ((aload_at gH2_H_n).trans (by kernel_rfl))) (veq_int _ _) (lowB_ptr (by omega)) ((by kernel_rfl : _ = val (aload T10 3 (.pointer (some ⟨H.n, 1, none⟩)) H2_) H2_).trans (val_to ((aload_at gH2_H_n).trans (by kernel_rfl)) (by kernel_rfl))) ?_
  refine aopsU_ask 16 (.string (dec rd)) 23 #[.int .i64 rd] (by kernel_rfl) (by kernel_rfl) (by kernel_rfl) (by kernel_rfl) (orc23 rd h1) ?_
  refine aopsU_go 1 (by kernel_rfl) ?_
  refine aopsU_look 18 (.int .i64 ra) (.pointer (some ⟨H.n, 2, none⟩)) (.tmp 17) H2_ (by kernel_rfl) (by kernel_rfl) (by kernel_rfl) (by kernel_rfl) (by kernel_rfl) (by kernel_rfl) ((by kernel_rfl : _ = aload T10 3 (.pointer (some ⟨H.n, 2, none⟩)) H2_).trans ((aload_at gH2_H_n).trans (by kernel_rfl))) (veq_int _ _) (lowB_ptr (by omega)) ((by kernel_rfl : _ = val (aload T10 3 (.pointer (some ⟨H.n, 2, none⟩)) H2_) H2_).trans (val_to ((aload_at gH2_H_n).trans (by kernel_rfl)) (by kernel_rfl))) ?_
  refine aopsU_ask 19 (.string (dec ra)) 23 #[.int .i64 ra] (by kernel_rfl) (by kernel_rfl) (by kernel_rfl) (by kernel_rfl) (orc23 ra h2) ?_
  refine aopsU_go 1 (by kernel_rfl) ?_
  refine aopsU_look 21 (.int .i64 rb) (.pointer (some ⟨H.n, 3, none⟩)) (.tmp 20) H2_ (by kernel_rfl) (by kernel_rfl) (by kernel_rfl) (by kernel_rfl) (by kernel_rfl) (by kernel_rfl) ((by kernel_rfl : _ = aload T10 3 (.pointer (some ⟨H.n, 3, none⟩)) H2_).trans ((aload_at gH2_H_n).trans (by kernel_rfl))) (veq_int _ _) (lowB_ptr (by omega)) ((by kernel_rfl : _ = val (aload T10 3 (.pointer (some ⟨H.n, 3, none⟩)) H2_) H2_).trans (val_to ((aload_at gH2_H_n).trans (by kernel_rfl)) (by kernel_rfl))) ?_
  refine aopsU_ask 22 (.string (dec rb)) 23 #[.int .i64 rb] (by kernel_rfl) (by kernel_rfl) (by kernel_rfl) (by kernel_rfl) (orc23 rb h3) ?_
  refine aopsU_go 1 (by kernel_rfl) ?_
  refine aopsU_look 24 (.int .u32 im) (.pointer (some ⟨H.n, 4, none⟩)) (.tmp 23) H2_ (by kernel_rfl) (by kernel_rfl) (by kernel_rfl) (by kernel_rfl) (by kernel_rfl) (by kernel_rfl) ((by kernel_rfl : _ = aload T10 22 (.pointer (some ⟨H.n, 4, none⟩)) H2_).trans ((aload_at gH2_H_n).trans (by kernel_rfl))) (veq_int _ _) (lowB_ptr (by omega)) ((by kernel_rfl : _ = val (aload T10 22 (.pointer (some ⟨H.n, 4, none⟩)) H2_) H2_).trans (val_to ((aload_at gH2_H_n).trans (by kernel_rfl)) (by kernel_rfl))) ?_
  refine aopsU_pt 25 (.int .u64 (IntKind.u64.wrap im)) (by kernel_rfl) (by kernel_rfl) (by kernel_rfl) (by kernel_rfl) (by kernel_rfl) ?_
  refine aopsU_see 25 (.int .u64 im) (see_int (x := IntKind.u64.wrap im) (by kernel_rfl) (wu64 rfl (by omega) (by omega))) ?_
  refine aopsU_ask 26 (.string (dec im)) 24 #[.int .u64 im, .int .i64 10] (by kernel_rfl) (by kernel_rfl) (by kernel_rfl) (by kernel_rfl) (orc24 im hi64) ?_
  obtain ⟨H3_, hH3_⟩ : ∃ x : Heap, x = H2_.push ⟨[Value.string ⟨⟨[115, 117, 98]⟩⟩, .string (dec rd), .string (dec ra), .string (dec rb), .string (dec im)], 9, false⟩ := ⟨_, rfl⟩
  have nH3_ : H3_.n = H2_.n + 1 := by rw [hH3_]; rfl
  refine aopsU_mk 27 (.slice (some ⟨H2_.n, 0, none⟩) 5 5) H2_ H3_ (by kernel_rfl) (by kernel_rfl) (by kernel_rfl) (by kernel_rfl) ((by kernel_rfl : _ = some (Res.val (.slice (some ⟨H2_.n, 0, none⟩) 5 5), H2_.push ⟨[Value.string ⟨⟨[115, 117, 98]⟩⟩, .string (dec rd), .string (dec ra), .string (dec rb), .string (dec im)], 9, false⟩)).trans (by rw [← hH3_])) (by kernel_rfl) (hH3_ ▸ Up.push (by omega) (Up.refl _) _) ?_
  refine aopsU_go 1 (by kernel_rfl) ?_
  refine aopsU_end (by kernel_rfl) (then_normal ?_)
  have gH3_H2__n : H3_.get (H2_.n) = some ⟨[Value.string ⟨⟨[115, 117, 98]⟩⟩, .string (dec rd), .string (dec ra), .string (dec rb), .string (dec im)], 9, false⟩ := by rw [hH3_]; exact (Heap.get_push _ _ _).trans (if_pos rfl)
  refine tw_code f13bcccc_eq ?_
  refine tw_code (congrArg (Code.seq · .ret) f13bcccca_eq) ?_
  refine tw_seq (tw_region (T := T10) progOk10 (joinF_ok (B := H2_.n) (c := 5) (xs := [nameV 4, dec rd, dec ra, dec rb, dec im]) (sep := ⟨⟨[32]⟩⟩) (e := 9) (by simp) (by simp) (by simp [unk]) (by rw [joinS_eq]; have := textR_size (op := 4) h1u h2u h3u hi; omega)) joinF_grows (by kernel_rfl) (join_step (B := H2_.n) (H := H3_) (by kernel_rfl) (s4 := (by kernel_rfl)) (x := joinS [nameV 4, dec rd, dec ra, dec rb, dec im] ⟨⟨[32]⟩⟩) (hx := joinF_eq (xs := [nameV 4, dec rd, dec ra, dec rb, dec im]) (gH3_H2__n.trans (by kernel_rfl)))) ?_)
  refine then_normal ?_
  exact tw_ret ⟨.string (joinS [nameV 4, dec rd, dec ra, dec rb, dec im] ⟨⟨[32]⟩⟩), by kernel_rfl, by rw [joinS_eq]; unfold textV; rw [hr]; rfl⟩
theorem f13_5 [Bs] [Tb] {rd ra rb im : Int} {H : Heap} (hr : rightV 5 rd ra rb im = true) (h1 : regV rd = true) (h2 : regV ra = true) (h3 : regV rb = true) (hi : u32B im = true) (w0 : World) : Tw Tryd.prog 30 w0 f13b (RetIs T10 Tryd.f13.results fun r _ => r = .string (textV 5 rd ra rb im)) ⟨initTm 0 #[.agg #[.int .i64 5, .int .i64 rd, .int .i64 ra, .int .i64 rb, .int .u32 im]], H⟩ := by
  have hi64 := u32_64 hi; have h1u := reg_u32 h1; have h2u := reg_u32 h2; have h3u := reg_u32 h3; have hi2 := hi; simp only [u32B, Bool.and_eq_true, decide_eq_true_eq] at hi2
  refine tw_code f13b_eq ?_
  refine tw_seq (tw_aw progOk10 (by kernel_rfl) ?_)
  refine aw_code f13ba_eq ?_
  refine aw_reg ?_
  obtain ⟨H1_, hH1_⟩ : ∃ x : Heap, x = H.push ⟨[Value.int .i64 5, .int .i64 rd, .int .i64 ra, .int .i64 rb, .int .u32 im], 24, false⟩ := ⟨_, rfl⟩
  have nH1_ : H1_.n = H.n + 1 := by rw [hH1_]; rfl
  refine aops_val 1 (.pointer (some ⟨H.n, 0, none⟩)) H1_ (by kernel_rfl) (by kernel_rfl) (by kernel_rfl) ((by kernel_rfl : _ = some (Res.val (.pointer (some ⟨H.n, 0, none⟩)), H.push ⟨[Value.int .i64 5, .int .i64 rd, .int .i64 ra, .int .i64 rb, .int .u32 im], 24, false⟩)).trans (by rw [← hH1_])) ?_
  refine aops_go 1 60 (by kernel_rfl) ?_
  refine aops_end (by kernel_rfl) (then_normal ?_)
  refine tw_code f13bc_eq ?_
  refine tw_seq (tw_aw progOk10 (by kernel_rfl) ?_)
  refine aw_code f13bca_eq ?_
  refine aw_then ?_
  refine aw_code f13bcaa_eq ?_
  refine aw_reg ?_
  have gH1_H_n : H1_.get (H.n) = some ⟨[Value.int .i64 5, .int .i64 rd, .int .i64 ra, .int .i64 rb, .int .u32 im], 24, false⟩ := by rw [hH1_]; exact (Heap.get_push _ _ _).trans (if_pos rfl)
  refine aops_val 5 (.agg #[.int .i64 5, .int .i64 rd, .int .i64 ra, .int .i64 rb, .int .u32 im]) H1_ (by kernel_rfl) (by kernel_rfl) (by kernel_rfl) ((by kernel_rfl : _ = val (aload T10 24 (.pointer (some ⟨H.n, 0, none⟩)) H1_) H1_).trans (val_of ((aload_at gH1_H_n).trans (by kernel_rfl)))) ?_
  refine aops_ask 6 (.bool true) 19 #[.agg #[.int .i64 5, .int .i64 rd, .int .i64 ra, .int .i64 rb, .int .u32 im]] (by kernel_rfl) (by kernel_rfl) (by kernel_rfl) (by kernel_rfl) (show some (Value.bool (rightV 5 rd ra rb im)) = _ by rw [hr]) ?_
  refine aops_go 1 60 (by kernel_rfl) ?_
  refine aops_end (by kernel_rfl) (then_normal ?_)
  refine aw_code f13bcac_eq ?_
  refine aw_cond (t := false) (by kernel_rfl) ?_
  refine aw_skip (then_normal ?_)
  refine tw_code f13bcc_eq ?_
  refine tw_seq (tw_aw progOk10 (by kernel_rfl) ?_)
  refine aw_code f13bcca_eq ?_
  refine aw_reg ?_
  obtain ⟨H2_, hH2_⟩ : ∃ x : Heap, x = H1_.push ⟨[Value.string ⟨⟨[110, 111, 112]⟩⟩, .string ⟨⟨[108, 105]⟩⟩, .string ⟨⟨[109, 111, 118]⟩⟩, .string ⟨⟨[97, 100, 100]⟩⟩, .string ⟨⟨[115, 117, 98]⟩⟩, .string ⟨⟨[97, 110, 100]⟩⟩, .string ⟨⟨[111, 114]⟩⟩, .string ⟨⟨[120, 111, 114]⟩⟩, .string ⟨⟨[115, 104, 108]⟩⟩, .string ⟨⟨[115, 104, 114]⟩⟩, .string ⟨⟨[109, 117, 108]⟩⟩, .string ⟨⟨[100, 105, 118]⟩⟩, .string ⟨⟨[108, 116, 117]⟩⟩, .string ⟨⟨[101, 113]⟩⟩, .string ⟨⟨[108, 100]⟩⟩, .string ⟨⟨[115, 116]⟩⟩, .string ⟨⟨[98, 101, 113, 122]⟩⟩, .string ⟨⟨[98, 110, 101, 122]⟩⟩, .string ⟨⟨[106, 109, 112]⟩⟩, .string ⟨⟨[101, 120, 105, 116]⟩⟩], 9, false⟩ := ⟨_, rfl⟩
  have nH2_ : H2_.n = H1_.n + 1 := by rw [hH2_]; rfl
  refine aops_val 8 (.slice (some ⟨H1_.n, 0, none⟩) 20 20) H2_ (by kernel_rfl) (by kernel_rfl) (by kernel_rfl) ((by kernel_rfl : _ = some (Res.val (.slice (some ⟨H1_.n, 0, none⟩) 20 20), H1_.push ⟨[Value.string ⟨⟨[110, 111, 112]⟩⟩, .string ⟨⟨[108, 105]⟩⟩, .string ⟨⟨[109, 111, 118]⟩⟩, .string ⟨⟨[97, 100, 100]⟩⟩, .string ⟨⟨[115, 117, 98]⟩⟩, .string ⟨⟨[97, 110, 100]⟩⟩, .string ⟨⟨[111, 114]⟩⟩, .string ⟨⟨[120, 111, 114]⟩⟩, .string ⟨⟨[115, 104, 108]⟩⟩, .string ⟨⟨[115, 104, 114]⟩⟩, .string ⟨⟨[109, 117, 108]⟩⟩, .string ⟨⟨[100, 105, 118]⟩⟩, .string ⟨⟨[108, 116, 117]⟩⟩, .string ⟨⟨[101, 113]⟩⟩, .string ⟨⟨[108, 100]⟩⟩, .string ⟨⟨[115, 116]⟩⟩, .string ⟨⟨[98, 101, 113, 122]⟩⟩, .string ⟨⟨[98, 110, 101, 122]⟩⟩, .string ⟨⟨[106, 109, 112]⟩⟩, .string ⟨⟨[101, 120, 105, 116]⟩⟩], 9, false⟩)).trans (by rw [← hH2_])) ?_
  refine aops_go 1 60 (by kernel_rfl) ?_
  refine aops_end (by kernel_rfl) (then_normal ?_)
  refine tw_code f13bccc_eq ?_
  refine tw_seq (tw_aw progOk10 (by kernel_rfl) ?_)
  refine aw_code f13bccca_eq ?_
  refine aw_drawU (H2_.n) ?_
  refine aopsU_go 2 (by kernel_rfl) ?_
  have gH2_H_n : H2_.get (H.n) = some ⟨[Value.int .i64 5, .int .i64 rd, .int .i64 ra, .int .i64 rb, .int .u32 im], 24, false⟩ := by rw [hH2_, Heap.get_push, if_neg (by omega)]; exact gH1_H_n
  refine aopsU_look 11 (.int .i64 5) (.pointer (some ⟨H.n, 0, none⟩)) (.tmp 10) H2_ (by kernel_rfl) (by kernel_rfl) (by kernel_rfl) (by kernel_rfl) (by kernel_rfl) (by kernel_rfl) ((by kernel_rfl : _ = aload T10 3 (.pointer (some ⟨H.n, 0, none⟩)) H2_).trans ((aload_at gH2_H_n).trans (by kernel_rfl))) (veq_int _ _) (lowB_ptr (by omega)) ((by kernel_rfl : _ = val (aload T10 3 (.pointer (some ⟨H.n, 0, none⟩)) H2_) H2_).trans (val_to ((aload_at gH2_H_n).trans (by kernel_rfl)) (by kernel_rfl))) ?_
  refine aopsU_go 1 (by kernel_rfl) ?_
  have gH2_H1__n : H2_.get (H1_.n) = some ⟨[Value.string ⟨⟨[110, 111, 112]⟩⟩, .string ⟨⟨[108, 105]⟩⟩, .string ⟨⟨[109, 111, 118]⟩⟩, .string ⟨⟨[97, 100, 100]⟩⟩, .string ⟨⟨[115, 117, 98]⟩⟩, .string ⟨⟨[97, 110, 100]⟩⟩, .string ⟨⟨[111, 114]⟩⟩, .string ⟨⟨[120, 111, 114]⟩⟩, .string ⟨⟨[115, 104, 108]⟩⟩, .string ⟨⟨[115, 104, 114]⟩⟩, .string ⟨⟨[109, 117, 108]⟩⟩, .string ⟨⟨[100, 105, 118]⟩⟩, .string ⟨⟨[108, 116, 117]⟩⟩, .string ⟨⟨[101, 113]⟩⟩, .string ⟨⟨[108, 100]⟩⟩, .string ⟨⟨[115, 116]⟩⟩, .string ⟨⟨[98, 101, 113, 122]⟩⟩, .string ⟨⟨[98, 110, 101, 122]⟩⟩, .string ⟨⟨[106, 109, 112]⟩⟩, .string ⟨⟨[101, 120, 105, 116]⟩⟩], 9, false⟩ := by rw [hH2_]; exact (Heap.get_push _ _ _).trans (if_pos rfl)
  refine aopsU_look 13 (.string ⟨⟨[97, 110, 100]⟩⟩) (.pointer (some ⟨H1_.n, 5, none⟩)) (.tmp 12) H2_ (by kernel_rfl) (by kernel_rfl) (by kernel_rfl) (by kernel_rfl) (by kernel_rfl) (by kernel_rfl) ((by kernel_rfl : _ = aload T10 9 (.pointer (some ⟨H1_.n, 5, none⟩)) H2_).trans ((aload_at gH2_H1__n).trans (by kernel_rfl))) (by simp [veq, veqs, veq0]) (lowB_ptr (by omega)) ((by kernel_rfl : _ = val (aload T10 9 (.pointer (some ⟨H1_.n, 5, none⟩)) H2_) H2_).trans (val_to ((aload_at gH2_H1__n).trans (by kernel_rfl)) (by kernel_rfl))) ?_
  refine aopsU_go 1 (by kernel_rfl) ?_
  refine aopsU_look 15 (.int .i64 rd) (.pointer (some ⟨H.n, 1, none⟩)) (.tmp 14) H2_ (by kernel_rfl) (by kernel_rfl) (by kernel_rfl) (by kernel_rfl) (by kernel_rfl) (by kernel_rfl) ((by kernel_rfl : _ = aload T10 3 (.pointer (some ⟨H.n, 1, none⟩)) H2_).trans ((aload_at gH2_H_n).trans (by kernel_rfl))) (veq_int _ _) (lowB_ptr (by omega)) ((by kernel_rfl : _ = val (aload T10 3 (.pointer (some ⟨H.n, 1, none⟩)) H2_) H2_).trans (val_to ((aload_at gH2_H_n).trans (by kernel_rfl)) (by kernel_rfl))) ?_
  refine aopsU_ask 16 (.string (dec rd)) 23 #[.int .i64 rd] (by kernel_rfl) (by kernel_rfl) (by kernel_rfl) (by kernel_rfl) (orc23 rd h1) ?_
  refine aopsU_go 1 (by kernel_rfl) ?_
  refine aopsU_look 18 (.int .i64 ra) (.pointer (some ⟨H.n, 2, none⟩)) (.tmp 17) H2_ (by kernel_rfl) (by kernel_rfl) (by kernel_rfl) (by kernel_rfl) (by kernel_rfl) (by kernel_rfl) ((by kernel_rfl : _ = aload T10 3 (.pointer (some ⟨H.n, 2, none⟩)) H2_).trans ((aload_at gH2_H_n).trans (by kernel_rfl))) (veq_int _ _) (lowB_ptr (by omega)) ((by kernel_rfl : _ = val (aload T10 3 (.pointer (some ⟨H.n, 2, none⟩)) H2_) H2_).trans (val_to ((aload_at gH2_H_n).trans (by kernel_rfl)) (by kernel_rfl))) ?_
  refine aopsU_ask 19 (.string (dec ra)) 23 #[.int .i64 ra] (by kernel_rfl) (by kernel_rfl) (by kernel_rfl) (by kernel_rfl) (orc23 ra h2) ?_
  refine aopsU_go 1 (by kernel_rfl) ?_
  refine aopsU_look 21 (.int .i64 rb) (.pointer (some ⟨H.n, 3, none⟩)) (.tmp 20) H2_ (by kernel_rfl) (by kernel_rfl) (by kernel_rfl) (by kernel_rfl) (by kernel_rfl) (by kernel_rfl) ((by kernel_rfl : _ = aload T10 3 (.pointer (some ⟨H.n, 3, none⟩)) H2_).trans ((aload_at gH2_H_n).trans (by kernel_rfl))) (veq_int _ _) (lowB_ptr (by omega)) ((by kernel_rfl : _ = val (aload T10 3 (.pointer (some ⟨H.n, 3, none⟩)) H2_) H2_).trans (val_to ((aload_at gH2_H_n).trans (by kernel_rfl)) (by kernel_rfl))) ?_
  refine aopsU_ask 22 (.string (dec rb)) 23 #[.int .i64 rb] (by kernel_rfl) (by kernel_rfl) (by kernel_rfl) (by kernel_rfl) (orc23 rb h3) ?_
  refine aopsU_go 1 (by kernel_rfl) ?_
  refine aopsU_look 24 (.int .u32 im) (.pointer (some ⟨H.n, 4, none⟩)) (.tmp 23) H2_ (by kernel_rfl) (by kernel_rfl) (by kernel_rfl) (by kernel_rfl) (by kernel_rfl) (by kernel_rfl) ((by kernel_rfl : _ = aload T10 22 (.pointer (some ⟨H.n, 4, none⟩)) H2_).trans ((aload_at gH2_H_n).trans (by kernel_rfl))) (veq_int _ _) (lowB_ptr (by omega)) ((by kernel_rfl : _ = val (aload T10 22 (.pointer (some ⟨H.n, 4, none⟩)) H2_) H2_).trans (val_to ((aload_at gH2_H_n).trans (by kernel_rfl)) (by kernel_rfl))) ?_
  refine aopsU_pt 25 (.int .u64 (IntKind.u64.wrap im)) (by kernel_rfl) (by kernel_rfl) (by kernel_rfl) (by kernel_rfl) (by kernel_rfl) ?_
  refine aopsU_see 25 (.int .u64 im) (see_int (x := IntKind.u64.wrap im) (by kernel_rfl) (wu64 rfl (by omega) (by omega))) ?_
  refine aopsU_ask 26 (.string (dec im)) 24 #[.int .u64 im, .int .i64 10] (by kernel_rfl) (by kernel_rfl) (by kernel_rfl) (by kernel_rfl) (orc24 im hi64) ?_
  obtain ⟨H3_, hH3_⟩ : ∃ x : Heap, x = H2_.push ⟨[Value.string ⟨⟨[97, 110, 100]⟩⟩, .string (dec rd), .string (dec ra), .string (dec rb), .string (dec im)], 9, false⟩ := ⟨_, rfl⟩
  have nH3_ : H3_.n = H2_.n + 1 := by rw [hH3_]; rfl
  refine aopsU_mk 27 (.slice (some ⟨H2_.n, 0, none⟩) 5 5) H2_ H3_ (by kernel_rfl) (by kernel_rfl) (by kernel_rfl) (by kernel_rfl) ((by kernel_rfl : _ = some (Res.val (.slice (some ⟨H2_.n, 0, none⟩) 5 5), H2_.push ⟨[Value.string ⟨⟨[97, 110, 100]⟩⟩, .string (dec rd), .string (dec ra), .string (dec rb), .string (dec im)], 9, false⟩)).trans (by rw [← hH3_])) (by kernel_rfl) (hH3_ ▸ Up.push (by omega) (Up.refl _) _) ?_
  refine aopsU_go 1 (by kernel_rfl) ?_
  refine aopsU_end (by kernel_rfl) (then_normal ?_)
  have gH3_H2__n : H3_.get (H2_.n) = some ⟨[Value.string ⟨⟨[97, 110, 100]⟩⟩, .string (dec rd), .string (dec ra), .string (dec rb), .string (dec im)], 9, false⟩ := by rw [hH3_]; exact (Heap.get_push _ _ _).trans (if_pos rfl)
  refine tw_code f13bcccc_eq ?_
  refine tw_code (congrArg (Code.seq · .ret) f13bcccca_eq) ?_
  refine tw_seq (tw_region (T := T10) progOk10 (joinF_ok (B := H2_.n) (c := 5) (xs := [nameV 5, dec rd, dec ra, dec rb, dec im]) (sep := ⟨⟨[32]⟩⟩) (e := 9) (by simp) (by simp) (by simp [unk]) (by rw [joinS_eq]; have := textR_size (op := 5) h1u h2u h3u hi; omega)) joinF_grows (by kernel_rfl) (join_step (B := H2_.n) (H := H3_) (by kernel_rfl) (s4 := (by kernel_rfl)) (x := joinS [nameV 5, dec rd, dec ra, dec rb, dec im] ⟨⟨[32]⟩⟩) (hx := joinF_eq (xs := [nameV 5, dec rd, dec ra, dec rb, dec im]) (gH3_H2__n.trans (by kernel_rfl)))) ?_)
  refine then_normal ?_
  exact tw_ret ⟨.string (joinS [nameV 5, dec rd, dec ra, dec rb, dec im] ⟨⟨[32]⟩⟩), by kernel_rfl, by rw [joinS_eq]; unfold textV; rw [hr]; rfl⟩
theorem f13_6 [Bs] [Tb] {rd ra rb im : Int} {H : Heap} (hr : rightV 6 rd ra rb im = true) (h1 : regV rd = true) (h2 : regV ra = true) (h3 : regV rb = true) (hi : u32B im = true) (w0 : World) : Tw Tryd.prog 30 w0 f13b (RetIs T10 Tryd.f13.results fun r _ => r = .string (textV 6 rd ra rb im)) ⟨initTm 0 #[.agg #[.int .i64 6, .int .i64 rd, .int .i64 ra, .int .i64 rb, .int .u32 im]], H⟩ := by
  have hi64 := u32_64 hi; have h1u := reg_u32 h1; have h2u := reg_u32 h2; have h3u := reg_u32 h3; have hi2 := hi; simp only [u32B, Bool.and_eq_true, decide_eq_true_eq] at hi2
  refine tw_code f13b_eq ?_
  refine tw_seq (tw_aw progOk10 (by kernel_rfl) ?_)
  refine aw_code f13ba_eq ?_
  refine aw_reg ?_
  obtain ⟨H1_, hH1_⟩ : ∃ x : Heap, x = H.push ⟨[Value.int .i64 6, .int .i64 rd, .int .i64 ra, .int .i64 rb, .int .u32 im], 24, false⟩ := ⟨_, rfl⟩
  have nH1_ : H1_.n = H.n + 1 := by rw [hH1_]; rfl
  refine aops_val 1 (.pointer (some ⟨H.n, 0, none⟩)) H1_ (by kernel_rfl) (by kernel_rfl) (by kernel_rfl) ((by kernel_rfl : _ = some (Res.val (.pointer (some ⟨H.n, 0, none⟩)), H.push ⟨[Value.int .i64 6, .int .i64 rd, .int .i64 ra, .int .i64 rb, .int .u32 im], 24, false⟩)).trans (by rw [← hH1_])) ?_
  refine aops_go 1 60 (by kernel_rfl) ?_
  refine aops_end (by kernel_rfl) (then_normal ?_)
  refine tw_code f13bc_eq ?_
  refine tw_seq (tw_aw progOk10 (by kernel_rfl) ?_)
  refine aw_code f13bca_eq ?_
  refine aw_then ?_
  refine aw_code f13bcaa_eq ?_
  refine aw_reg ?_
  have gH1_H_n : H1_.get (H.n) = some ⟨[Value.int .i64 6, .int .i64 rd, .int .i64 ra, .int .i64 rb, .int .u32 im], 24, false⟩ := by rw [hH1_]; exact (Heap.get_push _ _ _).trans (if_pos rfl)
  refine aops_val 5 (.agg #[.int .i64 6, .int .i64 rd, .int .i64 ra, .int .i64 rb, .int .u32 im]) H1_ (by kernel_rfl) (by kernel_rfl) (by kernel_rfl) ((by kernel_rfl : _ = val (aload T10 24 (.pointer (some ⟨H.n, 0, none⟩)) H1_) H1_).trans (val_of ((aload_at gH1_H_n).trans (by kernel_rfl)))) ?_
  refine aops_ask 6 (.bool true) 19 #[.agg #[.int .i64 6, .int .i64 rd, .int .i64 ra, .int .i64 rb, .int .u32 im]] (by kernel_rfl) (by kernel_rfl) (by kernel_rfl) (by kernel_rfl) (show some (Value.bool (rightV 6 rd ra rb im)) = _ by rw [hr]) ?_
  refine aops_go 1 60 (by kernel_rfl) ?_
  refine aops_end (by kernel_rfl) (then_normal ?_)
  refine aw_code f13bcac_eq ?_
  refine aw_cond (t := false) (by kernel_rfl) ?_
  refine aw_skip (then_normal ?_)
  refine tw_code f13bcc_eq ?_
  refine tw_seq (tw_aw progOk10 (by kernel_rfl) ?_)
  refine aw_code f13bcca_eq ?_
  refine aw_reg ?_
  obtain ⟨H2_, hH2_⟩ : ∃ x : Heap, x = H1_.push ⟨[Value.string ⟨⟨[110, 111, 112]⟩⟩, .string ⟨⟨[108, 105]⟩⟩, .string ⟨⟨[109, 111, 118]⟩⟩, .string ⟨⟨[97, 100, 100]⟩⟩, .string ⟨⟨[115, 117, 98]⟩⟩, .string ⟨⟨[97, 110, 100]⟩⟩, .string ⟨⟨[111, 114]⟩⟩, .string ⟨⟨[120, 111, 114]⟩⟩, .string ⟨⟨[115, 104, 108]⟩⟩, .string ⟨⟨[115, 104, 114]⟩⟩, .string ⟨⟨[109, 117, 108]⟩⟩, .string ⟨⟨[100, 105, 118]⟩⟩, .string ⟨⟨[108, 116, 117]⟩⟩, .string ⟨⟨[101, 113]⟩⟩, .string ⟨⟨[108, 100]⟩⟩, .string ⟨⟨[115, 116]⟩⟩, .string ⟨⟨[98, 101, 113, 122]⟩⟩, .string ⟨⟨[98, 110, 101, 122]⟩⟩, .string ⟨⟨[106, 109, 112]⟩⟩, .string ⟨⟨[101, 120, 105, 116]⟩⟩], 9, false⟩ := ⟨_, rfl⟩
  have nH2_ : H2_.n = H1_.n + 1 := by rw [hH2_]; rfl
  refine aops_val 8 (.slice (some ⟨H1_.n, 0, none⟩) 20 20) H2_ (by kernel_rfl) (by kernel_rfl) (by kernel_rfl) ((by kernel_rfl : _ = some (Res.val (.slice (some ⟨H1_.n, 0, none⟩) 20 20), H1_.push ⟨[Value.string ⟨⟨[110, 111, 112]⟩⟩, .string ⟨⟨[108, 105]⟩⟩, .string ⟨⟨[109, 111, 118]⟩⟩, .string ⟨⟨[97, 100, 100]⟩⟩, .string ⟨⟨[115, 117, 98]⟩⟩, .string ⟨⟨[97, 110, 100]⟩⟩, .string ⟨⟨[111, 114]⟩⟩, .string ⟨⟨[120, 111, 114]⟩⟩, .string ⟨⟨[115, 104, 108]⟩⟩, .string ⟨⟨[115, 104, 114]⟩⟩, .string ⟨⟨[109, 117, 108]⟩⟩, .string ⟨⟨[100, 105, 118]⟩⟩, .string ⟨⟨[108, 116, 117]⟩⟩, .string ⟨⟨[101, 113]⟩⟩, .string ⟨⟨[108, 100]⟩⟩, .string ⟨⟨[115, 116]⟩⟩, .string ⟨⟨[98, 101, 113, 122]⟩⟩, .string ⟨⟨[98, 110, 101, 122]⟩⟩, .string ⟨⟨[106, 109, 112]⟩⟩, .string ⟨⟨[101, 120, 105, 116]⟩⟩], 9, false⟩)).trans (by rw [← hH2_])) ?_
  refine aops_go 1 60 (by kernel_rfl) ?_
  refine aops_end (by kernel_rfl) (then_normal ?_)
  refine tw_code f13bccc_eq ?_
  refine tw_seq (tw_aw progOk10 (by kernel_rfl) ?_)
  refine aw_code f13bccca_eq ?_
  refine aw_drawU (H2_.n) ?_
  refine aopsU_go 2 (by kernel_rfl) ?_
  have gH2_H_n : H2_.get (H.n) = some ⟨[Value.int .i64 6, .int .i64 rd, .int .i64 ra, .int .i64 rb, .int .u32 im], 24, false⟩ := by rw [hH2_, Heap.get_push, if_neg (by omega)]; exact gH1_H_n
  refine aopsU_look 11 (.int .i64 6) (.pointer (some ⟨H.n, 0, none⟩)) (.tmp 10) H2_ (by kernel_rfl) (by kernel_rfl) (by kernel_rfl) (by kernel_rfl) (by kernel_rfl) (by kernel_rfl) ((by kernel_rfl : _ = aload T10 3 (.pointer (some ⟨H.n, 0, none⟩)) H2_).trans ((aload_at gH2_H_n).trans (by kernel_rfl))) (veq_int _ _) (lowB_ptr (by omega)) ((by kernel_rfl : _ = val (aload T10 3 (.pointer (some ⟨H.n, 0, none⟩)) H2_) H2_).trans (val_to ((aload_at gH2_H_n).trans (by kernel_rfl)) (by kernel_rfl))) ?_
  refine aopsU_go 1 (by kernel_rfl) ?_
  have gH2_H1__n : H2_.get (H1_.n) = some ⟨[Value.string ⟨⟨[110, 111, 112]⟩⟩, .string ⟨⟨[108, 105]⟩⟩, .string ⟨⟨[109, 111, 118]⟩⟩, .string ⟨⟨[97, 100, 100]⟩⟩, .string ⟨⟨[115, 117, 98]⟩⟩, .string ⟨⟨[97, 110, 100]⟩⟩, .string ⟨⟨[111, 114]⟩⟩, .string ⟨⟨[120, 111, 114]⟩⟩, .string ⟨⟨[115, 104, 108]⟩⟩, .string ⟨⟨[115, 104, 114]⟩⟩, .string ⟨⟨[109, 117, 108]⟩⟩, .string ⟨⟨[100, 105, 118]⟩⟩, .string ⟨⟨[108, 116, 117]⟩⟩, .string ⟨⟨[101, 113]⟩⟩, .string ⟨⟨[108, 100]⟩⟩, .string ⟨⟨[115, 116]⟩⟩, .string ⟨⟨[98, 101, 113, 122]⟩⟩, .string ⟨⟨[98, 110, 101, 122]⟩⟩, .string ⟨⟨[106, 109, 112]⟩⟩, .string ⟨⟨[101, 120, 105, 116]⟩⟩], 9, false⟩ := by rw [hH2_]; exact (Heap.get_push _ _ _).trans (if_pos rfl)
  refine aopsU_look 13 (.string ⟨⟨[111, 114]⟩⟩) (.pointer (some ⟨H1_.n, 6, none⟩)) (.tmp 12) H2_ (by kernel_rfl) (by kernel_rfl) (by kernel_rfl) (by kernel_rfl) (by kernel_rfl) (by kernel_rfl) ((by kernel_rfl : _ = aload T10 9 (.pointer (some ⟨H1_.n, 6, none⟩)) H2_).trans ((aload_at gH2_H1__n).trans (by kernel_rfl))) (by simp [veq, veqs, veq0]) (lowB_ptr (by omega)) ((by kernel_rfl : _ = val (aload T10 9 (.pointer (some ⟨H1_.n, 6, none⟩)) H2_) H2_).trans (val_to ((aload_at gH2_H1__n).trans (by kernel_rfl)) (by kernel_rfl))) ?_
  refine aopsU_go 1 (by kernel_rfl) ?_
  refine aopsU_look 15 (.int .i64 rd) (.pointer (some ⟨H.n, 1, none⟩)) (.tmp 14) H2_ (by kernel_rfl) (by kernel_rfl) (by kernel_rfl) (by kernel_rfl) (by kernel_rfl) (by kernel_rfl) ((by kernel_rfl : _ = aload T10 3 (.pointer (some ⟨H.n, 1, none⟩)) H2_).trans ((aload_at gH2_H_n).trans (by kernel_rfl))) (veq_int _ _) (lowB_ptr (by omega)) ((by kernel_rfl : _ = val (aload T10 3 (.pointer (some ⟨H.n, 1, none⟩)) H2_) H2_).trans (val_to ((aload_at gH2_H_n).trans (by kernel_rfl)) (by kernel_rfl))) ?_
  refine aopsU_ask 16 (.string (dec rd)) 23 #[.int .i64 rd] (by kernel_rfl) (by kernel_rfl) (by kernel_rfl) (by kernel_rfl) (orc23 rd h1) ?_
  refine aopsU_go 1 (by kernel_rfl) ?_
  refine aopsU_look 18 (.int .i64 ra) (.pointer (some ⟨H.n, 2, none⟩)) (.tmp 17) H2_ (by kernel_rfl) (by kernel_rfl) (by kernel_rfl) (by kernel_rfl) (by kernel_rfl) (by kernel_rfl) ((by kernel_rfl : _ = aload T10 3 (.pointer (some ⟨H.n, 2, none⟩)) H2_).trans ((aload_at gH2_H_n).trans (by kernel_rfl))) (veq_int _ _) (lowB_ptr (by omega)) ((by kernel_rfl : _ = val (aload T10 3 (.pointer (some ⟨H.n, 2, none⟩)) H2_) H2_).trans (val_to ((aload_at gH2_H_n).trans (by kernel_rfl)) (by kernel_rfl))) ?_
  refine aopsU_ask 19 (.string (dec ra)) 23 #[.int .i64 ra] (by kernel_rfl) (by kernel_rfl) (by kernel_rfl) (by kernel_rfl) (orc23 ra h2) ?_
  refine aopsU_go 1 (by kernel_rfl) ?_
  refine aopsU_look 21 (.int .i64 rb) (.pointer (some ⟨H.n, 3, none⟩)) (.tmp 20) H2_ (by kernel_rfl) (by kernel_rfl) (by kernel_rfl) (by kernel_rfl) (by kernel_rfl) (by kernel_rfl) ((by kernel_rfl : _ = aload T10 3 (.pointer (some ⟨H.n, 3, none⟩)) H2_).trans ((aload_at gH2_H_n).trans (by kernel_rfl))) (veq_int _ _) (lowB_ptr (by omega)) ((by kernel_rfl : _ = val (aload T10 3 (.pointer (some ⟨H.n, 3, none⟩)) H2_) H2_).trans (val_to ((aload_at gH2_H_n).trans (by kernel_rfl)) (by kernel_rfl))) ?_
  refine aopsU_ask 22 (.string (dec rb)) 23 #[.int .i64 rb] (by kernel_rfl) (by kernel_rfl) (by kernel_rfl) (by kernel_rfl) (orc23 rb h3) ?_
  refine aopsU_go 1 (by kernel_rfl) ?_
  refine aopsU_look 24 (.int .u32 im) (.pointer (some ⟨H.n, 4, none⟩)) (.tmp 23) H2_ (by kernel_rfl) (by kernel_rfl) (by kernel_rfl) (by kernel_rfl) (by kernel_rfl) (by kernel_rfl) ((by kernel_rfl : _ = aload T10 22 (.pointer (some ⟨H.n, 4, none⟩)) H2_).trans ((aload_at gH2_H_n).trans (by kernel_rfl))) (veq_int _ _) (lowB_ptr (by omega)) ((by kernel_rfl : _ = val (aload T10 22 (.pointer (some ⟨H.n, 4, none⟩)) H2_) H2_).trans (val_to ((aload_at gH2_H_n).trans (by kernel_rfl)) (by kernel_rfl))) ?_
  refine aopsU_pt 25 (.int .u64 (IntKind.u64.wrap im)) (by kernel_rfl) (by kernel_rfl) (by kernel_rfl) (by kernel_rfl) (by kernel_rfl) ?_
  refine aopsU_see 25 (.int .u64 im) (see_int (x := IntKind.u64.wrap im) (by kernel_rfl) (wu64 rfl (by omega) (by omega))) ?_
  refine aopsU_ask 26 (.string (dec im)) 24 #[.int .u64 im, .int .i64 10] (by kernel_rfl) (by kernel_rfl) (by kernel_rfl) (by kernel_rfl) (orc24 im hi64) ?_
  obtain ⟨H3_, hH3_⟩ : ∃ x : Heap, x = H2_.push ⟨[Value.string ⟨⟨[111, 114]⟩⟩, .string (dec rd), .string (dec ra), .string (dec rb), .string (dec im)], 9, false⟩ := ⟨_, rfl⟩
  have nH3_ : H3_.n = H2_.n + 1 := by rw [hH3_]; rfl
  refine aopsU_mk 27 (.slice (some ⟨H2_.n, 0, none⟩) 5 5) H2_ H3_ (by kernel_rfl) (by kernel_rfl) (by kernel_rfl) (by kernel_rfl) ((by kernel_rfl : _ = some (Res.val (.slice (some ⟨H2_.n, 0, none⟩) 5 5), H2_.push ⟨[Value.string ⟨⟨[111, 114]⟩⟩, .string (dec rd), .string (dec ra), .string (dec rb), .string (dec im)], 9, false⟩)).trans (by rw [← hH3_])) (by kernel_rfl) (hH3_ ▸ Up.push (by omega) (Up.refl _) _) ?_
  refine aopsU_go 1 (by kernel_rfl) ?_
  refine aopsU_end (by kernel_rfl) (then_normal ?_)
  have gH3_H2__n : H3_.get (H2_.n) = some ⟨[Value.string ⟨⟨[111, 114]⟩⟩, .string (dec rd), .string (dec ra), .string (dec rb), .string (dec im)], 9, false⟩ := by rw [hH3_]; exact (Heap.get_push _ _ _).trans (if_pos rfl)
  refine tw_code f13bcccc_eq ?_
  refine tw_code (congrArg (Code.seq · .ret) f13bcccca_eq) ?_
  refine tw_seq (tw_region (T := T10) progOk10 (joinF_ok (B := H2_.n) (c := 5) (xs := [nameV 6, dec rd, dec ra, dec rb, dec im]) (sep := ⟨⟨[32]⟩⟩) (e := 9) (by simp) (by simp) (by simp [unk]) (by rw [joinS_eq]; have := textR_size (op := 6) h1u h2u h3u hi; omega)) joinF_grows (by kernel_rfl) (join_step (B := H2_.n) (H := H3_) (by kernel_rfl) (s4 := (by kernel_rfl)) (x := joinS [nameV 6, dec rd, dec ra, dec rb, dec im] ⟨⟨[32]⟩⟩) (hx := joinF_eq (xs := [nameV 6, dec rd, dec ra, dec rb, dec im]) (gH3_H2__n.trans (by kernel_rfl)))) ?_)
  refine then_normal ?_
  exact tw_ret ⟨.string (joinS [nameV 6, dec rd, dec ra, dec rb, dec im] ⟨⟨[32]⟩⟩), by kernel_rfl, by rw [joinS_eq]; unfold textV; rw [hr]; rfl⟩
theorem f13_7 [Bs] [Tb] {rd ra rb im : Int} {H : Heap} (hr : rightV 7 rd ra rb im = true) (h1 : regV rd = true) (h2 : regV ra = true) (h3 : regV rb = true) (hi : u32B im = true) (w0 : World) : Tw Tryd.prog 30 w0 f13b (RetIs T10 Tryd.f13.results fun r _ => r = .string (textV 7 rd ra rb im)) ⟨initTm 0 #[.agg #[.int .i64 7, .int .i64 rd, .int .i64 ra, .int .i64 rb, .int .u32 im]], H⟩ := by
  have hi64 := u32_64 hi; have h1u := reg_u32 h1; have h2u := reg_u32 h2; have h3u := reg_u32 h3; have hi2 := hi; simp only [u32B, Bool.and_eq_true, decide_eq_true_eq] at hi2
  refine tw_code f13b_eq ?_
  refine tw_seq (tw_aw progOk10 (by kernel_rfl) ?_)
  refine aw_code f13ba_eq ?_
  refine aw_reg ?_
  obtain ⟨H1_, hH1_⟩ : ∃ x : Heap, x = H.push ⟨[Value.int .i64 7, .int .i64 rd, .int .i64 ra, .int .i64 rb, .int .u32 im], 24, false⟩ := ⟨_, rfl⟩
  have nH1_ : H1_.n = H.n + 1 := by rw [hH1_]; rfl
  refine aops_val 1 (.pointer (some ⟨H.n, 0, none⟩)) H1_ (by kernel_rfl) (by kernel_rfl) (by kernel_rfl) ((by kernel_rfl : _ = some (Res.val (.pointer (some ⟨H.n, 0, none⟩)), H.push ⟨[Value.int .i64 7, .int .i64 rd, .int .i64 ra, .int .i64 rb, .int .u32 im], 24, false⟩)).trans (by rw [← hH1_])) ?_
  refine aops_go 1 60 (by kernel_rfl) ?_
  refine aops_end (by kernel_rfl) (then_normal ?_)
  refine tw_code f13bc_eq ?_
  refine tw_seq (tw_aw progOk10 (by kernel_rfl) ?_)
  refine aw_code f13bca_eq ?_
  refine aw_then ?_
  refine aw_code f13bcaa_eq ?_
  refine aw_reg ?_
  have gH1_H_n : H1_.get (H.n) = some ⟨[Value.int .i64 7, .int .i64 rd, .int .i64 ra, .int .i64 rb, .int .u32 im], 24, false⟩ := by rw [hH1_]; exact (Heap.get_push _ _ _).trans (if_pos rfl)
  refine aops_val 5 (.agg #[.int .i64 7, .int .i64 rd, .int .i64 ra, .int .i64 rb, .int .u32 im]) H1_ (by kernel_rfl) (by kernel_rfl) (by kernel_rfl) ((by kernel_rfl : _ = val (aload T10 24 (.pointer (some ⟨H.n, 0, none⟩)) H1_) H1_).trans (val_of ((aload_at gH1_H_n).trans (by kernel_rfl)))) ?_
  refine aops_ask 6 (.bool true) 19 #[.agg #[.int .i64 7, .int .i64 rd, .int .i64 ra, .int .i64 rb, .int .u32 im]] (by kernel_rfl) (by kernel_rfl) (by kernel_rfl) (by kernel_rfl) (show some (Value.bool (rightV 7 rd ra rb im)) = _ by rw [hr]) ?_
  refine aops_go 1 60 (by kernel_rfl) ?_
  refine aops_end (by kernel_rfl) (then_normal ?_)
  refine aw_code f13bcac_eq ?_
  refine aw_cond (t := false) (by kernel_rfl) ?_
  refine aw_skip (then_normal ?_)
  refine tw_code f13bcc_eq ?_
  refine tw_seq (tw_aw progOk10 (by kernel_rfl) ?_)
  refine aw_code f13bcca_eq ?_
  refine aw_reg ?_
  obtain ⟨H2_, hH2_⟩ : ∃ x : Heap, x = H1_.push ⟨[Value.string ⟨⟨[110, 111, 112]⟩⟩, .string ⟨⟨[108, 105]⟩⟩, .string ⟨⟨[109, 111, 118]⟩⟩, .string ⟨⟨[97, 100, 100]⟩⟩, .string ⟨⟨[115, 117, 98]⟩⟩, .string ⟨⟨[97, 110, 100]⟩⟩, .string ⟨⟨[111, 114]⟩⟩, .string ⟨⟨[120, 111, 114]⟩⟩, .string ⟨⟨[115, 104, 108]⟩⟩, .string ⟨⟨[115, 104, 114]⟩⟩, .string ⟨⟨[109, 117, 108]⟩⟩, .string ⟨⟨[100, 105, 118]⟩⟩, .string ⟨⟨[108, 116, 117]⟩⟩, .string ⟨⟨[101, 113]⟩⟩, .string ⟨⟨[108, 100]⟩⟩, .string ⟨⟨[115, 116]⟩⟩, .string ⟨⟨[98, 101, 113, 122]⟩⟩, .string ⟨⟨[98, 110, 101, 122]⟩⟩, .string ⟨⟨[106, 109, 112]⟩⟩, .string ⟨⟨[101, 120, 105, 116]⟩⟩], 9, false⟩ := ⟨_, rfl⟩
  have nH2_ : H2_.n = H1_.n + 1 := by rw [hH2_]; rfl
  refine aops_val 8 (.slice (some ⟨H1_.n, 0, none⟩) 20 20) H2_ (by kernel_rfl) (by kernel_rfl) (by kernel_rfl) ((by kernel_rfl : _ = some (Res.val (.slice (some ⟨H1_.n, 0, none⟩) 20 20), H1_.push ⟨[Value.string ⟨⟨[110, 111, 112]⟩⟩, .string ⟨⟨[108, 105]⟩⟩, .string ⟨⟨[109, 111, 118]⟩⟩, .string ⟨⟨[97, 100, 100]⟩⟩, .string ⟨⟨[115, 117, 98]⟩⟩, .string ⟨⟨[97, 110, 100]⟩⟩, .string ⟨⟨[111, 114]⟩⟩, .string ⟨⟨[120, 111, 114]⟩⟩, .string ⟨⟨[115, 104, 108]⟩⟩, .string ⟨⟨[115, 104, 114]⟩⟩, .string ⟨⟨[109, 117, 108]⟩⟩, .string ⟨⟨[100, 105, 118]⟩⟩, .string ⟨⟨[108, 116, 117]⟩⟩, .string ⟨⟨[101, 113]⟩⟩, .string ⟨⟨[108, 100]⟩⟩, .string ⟨⟨[115, 116]⟩⟩, .string ⟨⟨[98, 101, 113, 122]⟩⟩, .string ⟨⟨[98, 110, 101, 122]⟩⟩, .string ⟨⟨[106, 109, 112]⟩⟩, .string ⟨⟨[101, 120, 105, 116]⟩⟩], 9, false⟩)).trans (by rw [← hH2_])) ?_
  refine aops_go 1 60 (by kernel_rfl) ?_
  refine aops_end (by kernel_rfl) (then_normal ?_)
  refine tw_code f13bccc_eq ?_
  refine tw_seq (tw_aw progOk10 (by kernel_rfl) ?_)
  refine aw_code f13bccca_eq ?_
  refine aw_drawU (H2_.n) ?_
  refine aopsU_go 2 (by kernel_rfl) ?_
  have gH2_H_n : H2_.get (H.n) = some ⟨[Value.int .i64 7, .int .i64 rd, .int .i64 ra, .int .i64 rb, .int .u32 im], 24, false⟩ := by rw [hH2_, Heap.get_push, if_neg (by omega)]; exact gH1_H_n
  refine aopsU_look 11 (.int .i64 7) (.pointer (some ⟨H.n, 0, none⟩)) (.tmp 10) H2_ (by kernel_rfl) (by kernel_rfl) (by kernel_rfl) (by kernel_rfl) (by kernel_rfl) (by kernel_rfl) ((by kernel_rfl : _ = aload T10 3 (.pointer (some ⟨H.n, 0, none⟩)) H2_).trans ((aload_at gH2_H_n).trans (by kernel_rfl))) (veq_int _ _) (lowB_ptr (by omega)) ((by kernel_rfl : _ = val (aload T10 3 (.pointer (some ⟨H.n, 0, none⟩)) H2_) H2_).trans (val_to ((aload_at gH2_H_n).trans (by kernel_rfl)) (by kernel_rfl))) ?_
  refine aopsU_go 1 (by kernel_rfl) ?_
  have gH2_H1__n : H2_.get (H1_.n) = some ⟨[Value.string ⟨⟨[110, 111, 112]⟩⟩, .string ⟨⟨[108, 105]⟩⟩, .string ⟨⟨[109, 111, 118]⟩⟩, .string ⟨⟨[97, 100, 100]⟩⟩, .string ⟨⟨[115, 117, 98]⟩⟩, .string ⟨⟨[97, 110, 100]⟩⟩, .string ⟨⟨[111, 114]⟩⟩, .string ⟨⟨[120, 111, 114]⟩⟩, .string ⟨⟨[115, 104, 108]⟩⟩, .string ⟨⟨[115, 104, 114]⟩⟩, .string ⟨⟨[109, 117, 108]⟩⟩, .string ⟨⟨[100, 105, 118]⟩⟩, .string ⟨⟨[108, 116, 117]⟩⟩, .string ⟨⟨[101, 113]⟩⟩, .string ⟨⟨[108, 100]⟩⟩, .string ⟨⟨[115, 116]⟩⟩, .string ⟨⟨[98, 101, 113, 122]⟩⟩, .string ⟨⟨[98, 110, 101, 122]⟩⟩, .string ⟨⟨[106, 109, 112]⟩⟩, .string ⟨⟨[101, 120, 105, 116]⟩⟩], 9, false⟩ := by rw [hH2_]; exact (Heap.get_push _ _ _).trans (if_pos rfl)
  refine aopsU_look 13 (.string ⟨⟨[120, 111, 114]⟩⟩) (.pointer (some ⟨H1_.n, 7, none⟩)) (.tmp 12) H2_ (by kernel_rfl) (by kernel_rfl) (by kernel_rfl) (by kernel_rfl) (by kernel_rfl) (by kernel_rfl) ((by kernel_rfl : _ = aload T10 9 (.pointer (some ⟨H1_.n, 7, none⟩)) H2_).trans ((aload_at gH2_H1__n).trans (by kernel_rfl))) (by simp [veq, veqs, veq0]) (lowB_ptr (by omega)) ((by kernel_rfl : _ = val (aload T10 9 (.pointer (some ⟨H1_.n, 7, none⟩)) H2_) H2_).trans (val_to ((aload_at gH2_H1__n).trans (by kernel_rfl)) (by kernel_rfl))) ?_
  refine aopsU_go 1 (by kernel_rfl) ?_
  refine aopsU_look 15 (.int .i64 rd) (.pointer (some ⟨H.n, 1, none⟩)) (.tmp 14) H2_ (by kernel_rfl) (by kernel_rfl) (by kernel_rfl) (by kernel_rfl) (by kernel_rfl) (by kernel_rfl) ((by kernel_rfl : _ = aload T10 3 (.pointer (some ⟨H.n, 1, none⟩)) H2_).trans ((aload_at gH2_H_n).trans (by kernel_rfl))) (veq_int _ _) (lowB_ptr (by omega)) ((by kernel_rfl : _ = val (aload T10 3 (.pointer (some ⟨H.n, 1, none⟩)) H2_) H2_).trans (val_to ((aload_at gH2_H_n).trans (by kernel_rfl)) (by kernel_rfl))) ?_
  refine aopsU_ask 16 (.string (dec rd)) 23 #[.int .i64 rd] (by kernel_rfl) (by kernel_rfl) (by kernel_rfl) (by kernel_rfl) (orc23 rd h1) ?_
  refine aopsU_go 1 (by kernel_rfl) ?_
  refine aopsU_look 18 (.int .i64 ra) (.pointer (some ⟨H.n, 2, none⟩)) (.tmp 17) H2_ (by kernel_rfl) (by kernel_rfl) (by kernel_rfl) (by kernel_rfl) (by kernel_rfl) (by kernel_rfl) ((by kernel_rfl : _ = aload T10 3 (.pointer (some ⟨H.n, 2, none⟩)) H2_).trans ((aload_at gH2_H_n).trans (by kernel_rfl))) (veq_int _ _) (lowB_ptr (by omega)) ((by kernel_rfl : _ = val (aload T10 3 (.pointer (some ⟨H.n, 2, none⟩)) H2_) H2_).trans (val_to ((aload_at gH2_H_n).trans (by kernel_rfl)) (by kernel_rfl))) ?_
  refine aopsU_ask 19 (.string (dec ra)) 23 #[.int .i64 ra] (by kernel_rfl) (by kernel_rfl) (by kernel_rfl) (by kernel_rfl) (orc23 ra h2) ?_
  refine aopsU_go 1 (by kernel_rfl) ?_
  refine aopsU_look 21 (.int .i64 rb) (.pointer (some ⟨H.n, 3, none⟩)) (.tmp 20) H2_ (by kernel_rfl) (by kernel_rfl) (by kernel_rfl) (by kernel_rfl) (by kernel_rfl) (by kernel_rfl) ((by kernel_rfl : _ = aload T10 3 (.pointer (some ⟨H.n, 3, none⟩)) H2_).trans ((aload_at gH2_H_n).trans (by kernel_rfl))) (veq_int _ _) (lowB_ptr (by omega)) ((by kernel_rfl : _ = val (aload T10 3 (.pointer (some ⟨H.n, 3, none⟩)) H2_) H2_).trans (val_to ((aload_at gH2_H_n).trans (by kernel_rfl)) (by kernel_rfl))) ?_
  refine aopsU_ask 22 (.string (dec rb)) 23 #[.int .i64 rb] (by kernel_rfl) (by kernel_rfl) (by kernel_rfl) (by kernel_rfl) (orc23 rb h3) ?_
  refine aopsU_go 1 (by kernel_rfl) ?_
  refine aopsU_look 24 (.int .u32 im) (.pointer (some ⟨H.n, 4, none⟩)) (.tmp 23) H2_ (by kernel_rfl) (by kernel_rfl) (by kernel_rfl) (by kernel_rfl) (by kernel_rfl) (by kernel_rfl) ((by kernel_rfl : _ = aload T10 22 (.pointer (some ⟨H.n, 4, none⟩)) H2_).trans ((aload_at gH2_H_n).trans (by kernel_rfl))) (veq_int _ _) (lowB_ptr (by omega)) ((by kernel_rfl : _ = val (aload T10 22 (.pointer (some ⟨H.n, 4, none⟩)) H2_) H2_).trans (val_to ((aload_at gH2_H_n).trans (by kernel_rfl)) (by kernel_rfl))) ?_
  refine aopsU_pt 25 (.int .u64 (IntKind.u64.wrap im)) (by kernel_rfl) (by kernel_rfl) (by kernel_rfl) (by kernel_rfl) (by kernel_rfl) ?_
  refine aopsU_see 25 (.int .u64 im) (see_int (x := IntKind.u64.wrap im) (by kernel_rfl) (wu64 rfl (by omega) (by omega))) ?_
  refine aopsU_ask 26 (.string (dec im)) 24 #[.int .u64 im, .int .i64 10] (by kernel_rfl) (by kernel_rfl) (by kernel_rfl) (by kernel_rfl) (orc24 im hi64) ?_
  obtain ⟨H3_, hH3_⟩ : ∃ x : Heap, x = H2_.push ⟨[Value.string ⟨⟨[120, 111, 114]⟩⟩, .string (dec rd), .string (dec ra), .string (dec rb), .string (dec im)], 9, false⟩ := ⟨_, rfl⟩
  have nH3_ : H3_.n = H2_.n + 1 := by rw [hH3_]; rfl
  refine aopsU_mk 27 (.slice (some ⟨H2_.n, 0, none⟩) 5 5) H2_ H3_ (by kernel_rfl) (by kernel_rfl) (by kernel_rfl) (by kernel_rfl) ((by kernel_rfl : _ = some (Res.val (.slice (some ⟨H2_.n, 0, none⟩) 5 5), H2_.push ⟨[Value.string ⟨⟨[120, 111, 114]⟩⟩, .string (dec rd), .string (dec ra), .string (dec rb), .string (dec im)], 9, false⟩)).trans (by rw [← hH3_])) (by kernel_rfl) (hH3_ ▸ Up.push (by omega) (Up.refl _) _) ?_
  refine aopsU_go 1 (by kernel_rfl) ?_
  refine aopsU_end (by kernel_rfl) (then_normal ?_)
  have gH3_H2__n : H3_.get (H2_.n) = some ⟨[Value.string ⟨⟨[120, 111, 114]⟩⟩, .string (dec rd), .string (dec ra), .string (dec rb), .string (dec im)], 9, false⟩ := by rw [hH3_]; exact (Heap.get_push _ _ _).trans (if_pos rfl)
  refine tw_code f13bcccc_eq ?_
  refine tw_code (congrArg (Code.seq · .ret) f13bcccca_eq) ?_
  refine tw_seq (tw_region (T := T10) progOk10 (joinF_ok (B := H2_.n) (c := 5) (xs := [nameV 7, dec rd, dec ra, dec rb, dec im]) (sep := ⟨⟨[32]⟩⟩) (e := 9) (by simp) (by simp) (by simp [unk]) (by rw [joinS_eq]; have := textR_size (op := 7) h1u h2u h3u hi; omega)) joinF_grows (by kernel_rfl) (join_step (B := H2_.n) (H := H3_) (by kernel_rfl) (s4 := (by kernel_rfl)) (x := joinS [nameV 7, dec rd, dec ra, dec rb, dec im] ⟨⟨[32]⟩⟩) (hx := joinF_eq (xs := [nameV 7, dec rd, dec ra, dec rb, dec im]) (gH3_H2__n.trans (by kernel_rfl)))) ?_)
  refine then_normal ?_
  exact tw_ret ⟨.string (joinS [nameV 7, dec rd, dec ra, dec rb, dec im] ⟨⟨[32]⟩⟩), by kernel_rfl, by rw [joinS_eq]; unfold textV; rw [hr]; rfl⟩
theorem f13_8 [Bs] [Tb] {rd ra rb im : Int} {H : Heap} (hr : rightV 8 rd ra rb im = true) (h1 : regV rd = true) (h2 : regV ra = true) (h3 : regV rb = true) (hi : u32B im = true) (w0 : World) : Tw Tryd.prog 30 w0 f13b (RetIs T10 Tryd.f13.results fun r _ => r = .string (textV 8 rd ra rb im)) ⟨initTm 0 #[.agg #[.int .i64 8, .int .i64 rd, .int .i64 ra, .int .i64 rb, .int .u32 im]], H⟩ := by
  have hi64 := u32_64 hi; have h1u := reg_u32 h1; have h2u := reg_u32 h2; have h3u := reg_u32 h3; have hi2 := hi; simp only [u32B, Bool.and_eq_true, decide_eq_true_eq] at hi2
  refine tw_code f13b_eq ?_
  refine tw_seq (tw_aw progOk10 (by kernel_rfl) ?_)
  refine aw_code f13ba_eq ?_
  refine aw_reg ?_
  obtain ⟨H1_, hH1_⟩ : ∃ x : Heap, x = H.push ⟨[Value.int .i64 8, .int .i64 rd, .int .i64 ra, .int .i64 rb, .int .u32 im], 24, false⟩ := ⟨_, rfl⟩
  have nH1_ : H1_.n = H.n + 1 := by rw [hH1_]; rfl
  refine aops_val 1 (.pointer (some ⟨H.n, 0, none⟩)) H1_ (by kernel_rfl) (by kernel_rfl) (by kernel_rfl) ((by kernel_rfl : _ = some (Res.val (.pointer (some ⟨H.n, 0, none⟩)), H.push ⟨[Value.int .i64 8, .int .i64 rd, .int .i64 ra, .int .i64 rb, .int .u32 im], 24, false⟩)).trans (by rw [← hH1_])) ?_
  refine aops_go 1 60 (by kernel_rfl) ?_
  refine aops_end (by kernel_rfl) (then_normal ?_)
  refine tw_code f13bc_eq ?_
  refine tw_seq (tw_aw progOk10 (by kernel_rfl) ?_)
  refine aw_code f13bca_eq ?_
  refine aw_then ?_
  refine aw_code f13bcaa_eq ?_
  refine aw_reg ?_
  have gH1_H_n : H1_.get (H.n) = some ⟨[Value.int .i64 8, .int .i64 rd, .int .i64 ra, .int .i64 rb, .int .u32 im], 24, false⟩ := by rw [hH1_]; exact (Heap.get_push _ _ _).trans (if_pos rfl)
  refine aops_val 5 (.agg #[.int .i64 8, .int .i64 rd, .int .i64 ra, .int .i64 rb, .int .u32 im]) H1_ (by kernel_rfl) (by kernel_rfl) (by kernel_rfl) ((by kernel_rfl : _ = val (aload T10 24 (.pointer (some ⟨H.n, 0, none⟩)) H1_) H1_).trans (val_of ((aload_at gH1_H_n).trans (by kernel_rfl)))) ?_
  refine aops_ask 6 (.bool true) 19 #[.agg #[.int .i64 8, .int .i64 rd, .int .i64 ra, .int .i64 rb, .int .u32 im]] (by kernel_rfl) (by kernel_rfl) (by kernel_rfl) (by kernel_rfl) (show some (Value.bool (rightV 8 rd ra rb im)) = _ by rw [hr]) ?_
  refine aops_go 1 60 (by kernel_rfl) ?_
  refine aops_end (by kernel_rfl) (then_normal ?_)
  refine aw_code f13bcac_eq ?_
  refine aw_cond (t := false) (by kernel_rfl) ?_
  refine aw_skip (then_normal ?_)
  refine tw_code f13bcc_eq ?_
  refine tw_seq (tw_aw progOk10 (by kernel_rfl) ?_)
  refine aw_code f13bcca_eq ?_
  refine aw_reg ?_
  obtain ⟨H2_, hH2_⟩ : ∃ x : Heap, x = H1_.push ⟨[Value.string ⟨⟨[110, 111, 112]⟩⟩, .string ⟨⟨[108, 105]⟩⟩, .string ⟨⟨[109, 111, 118]⟩⟩, .string ⟨⟨[97, 100, 100]⟩⟩, .string ⟨⟨[115, 117, 98]⟩⟩, .string ⟨⟨[97, 110, 100]⟩⟩, .string ⟨⟨[111, 114]⟩⟩, .string ⟨⟨[120, 111, 114]⟩⟩, .string ⟨⟨[115, 104, 108]⟩⟩, .string ⟨⟨[115, 104, 114]⟩⟩, .string ⟨⟨[109, 117, 108]⟩⟩, .string ⟨⟨[100, 105, 118]⟩⟩, .string ⟨⟨[108, 116, 117]⟩⟩, .string ⟨⟨[101, 113]⟩⟩, .string ⟨⟨[108, 100]⟩⟩, .string ⟨⟨[115, 116]⟩⟩, .string ⟨⟨[98, 101, 113, 122]⟩⟩, .string ⟨⟨[98, 110, 101, 122]⟩⟩, .string ⟨⟨[106, 109, 112]⟩⟩, .string ⟨⟨[101, 120, 105, 116]⟩⟩], 9, false⟩ := ⟨_, rfl⟩
  have nH2_ : H2_.n = H1_.n + 1 := by rw [hH2_]; rfl
  refine aops_val 8 (.slice (some ⟨H1_.n, 0, none⟩) 20 20) H2_ (by kernel_rfl) (by kernel_rfl) (by kernel_rfl) ((by kernel_rfl : _ = some (Res.val (.slice (some ⟨H1_.n, 0, none⟩) 20 20), H1_.push ⟨[Value.string ⟨⟨[110, 111, 112]⟩⟩, .string ⟨⟨[108, 105]⟩⟩, .string ⟨⟨[109, 111, 118]⟩⟩, .string ⟨⟨[97, 100, 100]⟩⟩, .string ⟨⟨[115, 117, 98]⟩⟩, .string ⟨⟨[97, 110, 100]⟩⟩, .string ⟨⟨[111, 114]⟩⟩, .string ⟨⟨[120, 111, 114]⟩⟩, .string ⟨⟨[115, 104, 108]⟩⟩, .string ⟨⟨[115, 104, 114]⟩⟩, .string ⟨⟨[109, 117, 108]⟩⟩, .string ⟨⟨[100, 105, 118]⟩⟩, .string ⟨⟨[108, 116, 117]⟩⟩, .string ⟨⟨[101, 113]⟩⟩, .string ⟨⟨[108, 100]⟩⟩, .string ⟨⟨[115, 116]⟩⟩, .string ⟨⟨[98, 101, 113, 122]⟩⟩, .string ⟨⟨[98, 110, 101, 122]⟩⟩, .string ⟨⟨[106, 109, 112]⟩⟩, .string ⟨⟨[101, 120, 105, 116]⟩⟩], 9, false⟩)).trans (by rw [← hH2_])) ?_
  refine aops_go 1 60 (by kernel_rfl) ?_
  refine aops_end (by kernel_rfl) (then_normal ?_)
  refine tw_code f13bccc_eq ?_
  refine tw_seq (tw_aw progOk10 (by kernel_rfl) ?_)
  refine aw_code f13bccca_eq ?_
  refine aw_drawU (H2_.n) ?_
  refine aopsU_go 2 (by kernel_rfl) ?_
  have gH2_H_n : H2_.get (H.n) = some ⟨[Value.int .i64 8, .int .i64 rd, .int .i64 ra, .int .i64 rb, .int .u32 im], 24, false⟩ := by rw [hH2_, Heap.get_push, if_neg (by omega)]; exact gH1_H_n
  refine aopsU_look 11 (.int .i64 8) (.pointer (some ⟨H.n, 0, none⟩)) (.tmp 10) H2_ (by kernel_rfl) (by kernel_rfl) (by kernel_rfl) (by kernel_rfl) (by kernel_rfl) (by kernel_rfl) ((by kernel_rfl : _ = aload T10 3 (.pointer (some ⟨H.n, 0, none⟩)) H2_).trans ((aload_at gH2_H_n).trans (by kernel_rfl))) (veq_int _ _) (lowB_ptr (by omega)) ((by kernel_rfl : _ = val (aload T10 3 (.pointer (some ⟨H.n, 0, none⟩)) H2_) H2_).trans (val_to ((aload_at gH2_H_n).trans (by kernel_rfl)) (by kernel_rfl))) ?_
  refine aopsU_go 1 (by kernel_rfl) ?_
  have gH2_H1__n : H2_.get (H1_.n) = some ⟨[Value.string ⟨⟨[110, 111, 112]⟩⟩, .string ⟨⟨[108, 105]⟩⟩, .string ⟨⟨[109, 111, 118]⟩⟩, .string ⟨⟨[97, 100, 100]⟩⟩, .string ⟨⟨[115, 117, 98]⟩⟩, .string ⟨⟨[97, 110, 100]⟩⟩, .string ⟨⟨[111, 114]⟩⟩, .string ⟨⟨[120, 111, 114]⟩⟩, .string ⟨⟨[115, 104, 108]⟩⟩, .string ⟨⟨[115, 104, 114]⟩⟩, .string ⟨⟨[109, 117, 108]⟩⟩, .string ⟨⟨[100, 105, 118]⟩⟩, .string ⟨⟨[108, 116, 117]⟩⟩, .string ⟨⟨[101, 113]⟩⟩, .string ⟨⟨[108, 100]⟩⟩, .string ⟨⟨[115, 116]⟩⟩, .string ⟨⟨[98, 101, 113, 122]⟩⟩, .string ⟨⟨[98, 110, 101, 122]⟩⟩, .string ⟨⟨[106, 109, 112]⟩⟩, .string ⟨⟨[101, 120, 105, 116]⟩⟩], 9, false⟩ := by rw [hH2_]; exact (Heap.get_push _ _ _).trans (if_pos rfl)
  refine aopsU_look 13 (.string ⟨⟨[115, 104, 108]⟩⟩) (.pointer (some ⟨H1_.n, 8, none⟩)) (.tmp 12) H2_ (by kernel_rfl) (by kernel_rfl) (by kernel_rfl) (by kernel_rfl) (by kernel_rfl) (by kernel_rfl) ((by kernel_rfl : _ = aload T10 9 (.pointer (some ⟨H1_.n, 8, none⟩)) H2_).trans ((aload_at gH2_H1__n).trans (by kernel_rfl))) (by simp [veq, veqs, veq0]) (lowB_ptr (by omega)) ((by kernel_rfl : _ = val (aload T10 9 (.pointer (some ⟨H1_.n, 8, none⟩)) H2_) H2_).trans (val_to ((aload_at gH2_H1__n).trans (by kernel_rfl)) (by kernel_rfl))) ?_
  refine aopsU_go 1 (by kernel_rfl) ?_
  refine aopsU_look 15 (.int .i64 rd) (.pointer (some ⟨H.n, 1, none⟩)) (.tmp 14) H2_ (by kernel_rfl) (by kernel_rfl) (by kernel_rfl) (by kernel_rfl) (by kernel_rfl) (by kernel_rfl) ((by kernel_rfl : _ = aload T10 3 (.pointer (some ⟨H.n, 1, none⟩)) H2_).trans ((aload_at gH2_H_n).trans (by kernel_rfl))) (veq_int _ _) (lowB_ptr (by omega)) ((by kernel_rfl : _ = val (aload T10 3 (.pointer (some ⟨H.n, 1, none⟩)) H2_) H2_).trans (val_to ((aload_at gH2_H_n).trans (by kernel_rfl)) (by kernel_rfl))) ?_
  refine aopsU_ask 16 (.string (dec rd)) 23 #[.int .i64 rd] (by kernel_rfl) (by kernel_rfl) (by kernel_rfl) (by kernel_rfl) (orc23 rd h1) ?_
  refine aopsU_go 1 (by kernel_rfl) ?_
  refine aopsU_look 18 (.int .i64 ra) (.pointer (some ⟨H.n, 2, none⟩)) (.tmp 17) H2_ (by kernel_rfl) (by kernel_rfl) (by kernel_rfl) (by kernel_rfl) (by kernel_rfl) (by kernel_rfl) ((by kernel_rfl : _ = aload T10 3 (.pointer (some ⟨H.n, 2, none⟩)) H2_).trans ((aload_at gH2_H_n).trans (by kernel_rfl))) (veq_int _ _) (lowB_ptr (by omega)) ((by kernel_rfl : _ = val (aload T10 3 (.pointer (some ⟨H.n, 2, none⟩)) H2_) H2_).trans (val_to ((aload_at gH2_H_n).trans (by kernel_rfl)) (by kernel_rfl))) ?_
  refine aopsU_ask 19 (.string (dec ra)) 23 #[.int .i64 ra] (by kernel_rfl) (by kernel_rfl) (by kernel_rfl) (by kernel_rfl) (orc23 ra h2) ?_
  refine aopsU_go 1 (by kernel_rfl) ?_
  refine aopsU_look 21 (.int .i64 rb) (.pointer (some ⟨H.n, 3, none⟩)) (.tmp 20) H2_ (by kernel_rfl) (by kernel_rfl) (by kernel_rfl) (by kernel_rfl) (by kernel_rfl) (by kernel_rfl) ((by kernel_rfl : _ = aload T10 3 (.pointer (some ⟨H.n, 3, none⟩)) H2_).trans ((aload_at gH2_H_n).trans (by kernel_rfl))) (veq_int _ _) (lowB_ptr (by omega)) ((by kernel_rfl : _ = val (aload T10 3 (.pointer (some ⟨H.n, 3, none⟩)) H2_) H2_).trans (val_to ((aload_at gH2_H_n).trans (by kernel_rfl)) (by kernel_rfl))) ?_
  refine aopsU_ask 22 (.string (dec rb)) 23 #[.int .i64 rb] (by kernel_rfl) (by kernel_rfl) (by kernel_rfl) (by kernel_rfl) (orc23 rb h3) ?_
  refine aopsU_go 1 (by kernel_rfl) ?_
  refine aopsU_look 24 (.int .u32 im) (.pointer (some ⟨H.n, 4, none⟩)) (.tmp 23) H2_ (by kernel_rfl) (by kernel_rfl) (by kernel_rfl) (by kernel_rfl) (by kernel_rfl) (by kernel_rfl) ((by kernel_rfl : _ = aload T10 22 (.pointer (some ⟨H.n, 4, none⟩)) H2_).trans ((aload_at gH2_H_n).trans (by kernel_rfl))) (veq_int _ _) (lowB_ptr (by omega)) ((by kernel_rfl : _ = val (aload T10 22 (.pointer (some ⟨H.n, 4, none⟩)) H2_) H2_).trans (val_to ((aload_at gH2_H_n).trans (by kernel_rfl)) (by kernel_rfl))) ?_
  refine aopsU_pt 25 (.int .u64 (IntKind.u64.wrap im)) (by kernel_rfl) (by kernel_rfl) (by kernel_rfl) (by kernel_rfl) (by kernel_rfl) ?_
  refine aopsU_see 25 (.int .u64 im) (see_int (x := IntKind.u64.wrap im) (by kernel_rfl) (wu64 rfl (by omega) (by omega))) ?_
  refine aopsU_ask 26 (.string (dec im)) 24 #[.int .u64 im, .int .i64 10] (by kernel_rfl) (by kernel_rfl) (by kernel_rfl) (by kernel_rfl) (orc24 im hi64) ?_
  obtain ⟨H3_, hH3_⟩ : ∃ x : Heap, x = H2_.push ⟨[Value.string ⟨⟨[115, 104, 108]⟩⟩, .string (dec rd), .string (dec ra), .string (dec rb), .string (dec im)], 9, false⟩ := ⟨_, rfl⟩
  have nH3_ : H3_.n = H2_.n + 1 := by rw [hH3_]; rfl
  refine aopsU_mk 27 (.slice (some ⟨H2_.n, 0, none⟩) 5 5) H2_ H3_ (by kernel_rfl) (by kernel_rfl) (by kernel_rfl) (by kernel_rfl) ((by kernel_rfl : _ = some (Res.val (.slice (some ⟨H2_.n, 0, none⟩) 5 5), H2_.push ⟨[Value.string ⟨⟨[115, 104, 108]⟩⟩, .string (dec rd), .string (dec ra), .string (dec rb), .string (dec im)], 9, false⟩)).trans (by rw [← hH3_])) (by kernel_rfl) (hH3_ ▸ Up.push (by omega) (Up.refl _) _) ?_
  refine aopsU_go 1 (by kernel_rfl) ?_
  refine aopsU_end (by kernel_rfl) (then_normal ?_)
  have gH3_H2__n : H3_.get (H2_.n) = some ⟨[Value.string ⟨⟨[115, 104, 108]⟩⟩, .string (dec rd), .string (dec ra), .string (dec rb), .string (dec im)], 9, false⟩ := by rw [hH3_]; exact (Heap.get_push _ _ _).trans (if_pos rfl)
  refine tw_code f13bcccc_eq ?_
  refine tw_code (congrArg (Code.seq · .ret) f13bcccca_eq) ?_
  refine tw_seq (tw_region (T := T10) progOk10 (joinF_ok (B := H2_.n) (c := 5) (xs := [nameV 8, dec rd, dec ra, dec rb, dec im]) (sep := ⟨⟨[32]⟩⟩) (e := 9) (by simp) (by simp) (by simp [unk]) (by rw [joinS_eq]; have := textR_size (op := 8) h1u h2u h3u hi; omega)) joinF_grows (by kernel_rfl) (join_step (B := H2_.n) (H := H3_) (by kernel_rfl) (s4 := (by kernel_rfl)) (x := joinS [nameV 8, dec rd, dec ra, dec rb, dec im] ⟨⟨[32]⟩⟩) (hx := joinF_eq (xs := [nameV 8, dec rd, dec ra, dec rb, dec im]) (gH3_H2__n.trans (by kernel_rfl)))) ?_)
  refine then_normal ?_
  exact tw_ret ⟨.string (joinS [nameV 8, dec rd, dec ra, dec rb, dec im] ⟨⟨[32]⟩⟩), by kernel_rfl, by rw [joinS_eq]; unfold textV; rw [hr]; rfl⟩
theorem f13_9 [Bs] [Tb] {rd ra rb im : Int} {H : Heap} (hr : rightV 9 rd ra rb im = true) (h1 : regV rd = true) (h2 : regV ra = true) (h3 : regV rb = true) (hi : u32B im = true) (w0 : World) : Tw Tryd.prog 30 w0 f13b (RetIs T10 Tryd.f13.results fun r _ => r = .string (textV 9 rd ra rb im)) ⟨initTm 0 #[.agg #[.int .i64 9, .int .i64 rd, .int .i64 ra, .int .i64 rb, .int .u32 im]], H⟩ := by
  have hi64 := u32_64 hi; have h1u := reg_u32 h1; have h2u := reg_u32 h2; have h3u := reg_u32 h3; have hi2 := hi; simp only [u32B, Bool.and_eq_true, decide_eq_true_eq] at hi2
  refine tw_code f13b_eq ?_
  refine tw_seq (tw_aw progOk10 (by kernel_rfl) ?_)
  refine aw_code f13ba_eq ?_
  refine aw_reg ?_
  obtain ⟨H1_, hH1_⟩ : ∃ x : Heap, x = H.push ⟨[Value.int .i64 9, .int .i64 rd, .int .i64 ra, .int .i64 rb, .int .u32 im], 24, false⟩ := ⟨_, rfl⟩
  have nH1_ : H1_.n = H.n + 1 := by rw [hH1_]; rfl
  refine aops_val 1 (.pointer (some ⟨H.n, 0, none⟩)) H1_ (by kernel_rfl) (by kernel_rfl) (by kernel_rfl) ((by kernel_rfl : _ = some (Res.val (.pointer (some ⟨H.n, 0, none⟩)), H.push ⟨[Value.int .i64 9, .int .i64 rd, .int .i64 ra, .int .i64 rb, .int .u32 im], 24, false⟩)).trans (by rw [← hH1_])) ?_
  refine aops_go 1 60 (by kernel_rfl) ?_
  refine aops_end (by kernel_rfl) (then_normal ?_)
  refine tw_code f13bc_eq ?_
  refine tw_seq (tw_aw progOk10 (by kernel_rfl) ?_)
  refine aw_code f13bca_eq ?_
  refine aw_then ?_
  refine aw_code f13bcaa_eq ?_
  refine aw_reg ?_
  have gH1_H_n : H1_.get (H.n) = some ⟨[Value.int .i64 9, .int .i64 rd, .int .i64 ra, .int .i64 rb, .int .u32 im], 24, false⟩ := by rw [hH1_]; exact (Heap.get_push _ _ _).trans (if_pos rfl)
  refine aops_val 5 (.agg #[.int .i64 9, .int .i64 rd, .int .i64 ra, .int .i64 rb, .int .u32 im]) H1_ (by kernel_rfl) (by kernel_rfl) (by kernel_rfl) ((by kernel_rfl : _ = val (aload T10 24 (.pointer (some ⟨H.n, 0, none⟩)) H1_) H1_).trans (val_of ((aload_at gH1_H_n).trans (by kernel_rfl)))) ?_
  refine aops_ask 6 (.bool true) 19 #[.agg #[.int .i64 9, .int .i64 rd, .int .i64 ra, .int .i64 rb, .int .u32 im]] (by kernel_rfl) (by kernel_rfl) (by kernel_rfl) (by kernel_rfl) (show some (Value.bool (rightV 9 rd ra rb im)) = _ by rw [hr]) ?_
  refine aops_go 1 60 (by kernel_rfl) ?_
  refine aops_end (by kernel_rfl) (then_normal ?_)
  refine aw_code f13bcac_eq ?_
  refine aw_cond (t := false) (by kernel_rfl) ?_
  refine aw_skip (then_normal ?_)
  refine tw_code f13bcc_eq ?_
  refine tw_seq (tw_aw progOk10 (by kernel_rfl) ?_)
  refine aw_code f13bcca_eq ?_
  refine aw_reg ?_
  obtain ⟨H2_, hH2_⟩ : ∃ x : Heap, x = H1_.push ⟨[Value.string ⟨⟨[110, 111, 112]⟩⟩, .string ⟨⟨[108, 105]⟩⟩, .string ⟨⟨[109, 111, 118]⟩⟩, .string ⟨⟨[97, 100, 100]⟩⟩, .string ⟨⟨[115, 117, 98]⟩⟩, .string ⟨⟨[97, 110, 100]⟩⟩, .string ⟨⟨[111, 114]⟩⟩, .string ⟨⟨[120, 111, 114]⟩⟩, .string ⟨⟨[115, 104, 108]⟩⟩, .string ⟨⟨[115, 104, 114]⟩⟩, .string ⟨⟨[109, 117, 108]⟩⟩, .string ⟨⟨[100, 105, 118]⟩⟩, .string ⟨⟨[108, 116, 117]⟩⟩, .string ⟨⟨[101, 113]⟩⟩, .string ⟨⟨[108, 100]⟩⟩, .string ⟨⟨[115, 116]⟩⟩, .string ⟨⟨[98, 101, 113, 122]⟩⟩, .string ⟨⟨[98, 110, 101, 122]⟩⟩, .string ⟨⟨[106, 109, 112]⟩⟩, .string ⟨⟨[101, 120, 105, 116]⟩⟩], 9, false⟩ := ⟨_, rfl⟩
  have nH2_ : H2_.n = H1_.n + 1 := by rw [hH2_]; rfl
  refine aops_val 8 (.slice (some ⟨H1_.n, 0, none⟩) 20 20) H2_ (by kernel_rfl) (by kernel_rfl) (by kernel_rfl) ((by kernel_rfl : _ = some (Res.val (.slice (some ⟨H1_.n, 0, none⟩) 20 20), H1_.push ⟨[Value.string ⟨⟨[110, 111, 112]⟩⟩, .string ⟨⟨[108, 105]⟩⟩, .string ⟨⟨[109, 111, 118]⟩⟩, .string ⟨⟨[97, 100, 100]⟩⟩, .string ⟨⟨[115, 117, 98]⟩⟩, .string ⟨⟨[97, 110, 100]⟩⟩, .string ⟨⟨[111, 114]⟩⟩, .string ⟨⟨[120, 111, 114]⟩⟩, .string ⟨⟨[115, 104, 108]⟩⟩, .string ⟨⟨[115, 104, 114]⟩⟩, .string ⟨⟨[109, 117, 108]⟩⟩, .string ⟨⟨[100, 105, 118]⟩⟩, .string ⟨⟨[108, 116, 117]⟩⟩, .string ⟨⟨[101, 113]⟩⟩, .string ⟨⟨[108, 100]⟩⟩, .string ⟨⟨[115, 116]⟩⟩, .string ⟨⟨[98, 101, 113, 122]⟩⟩, .string ⟨⟨[98, 110, 101, 122]⟩⟩, .string ⟨⟨[106, 109, 112]⟩⟩, .string ⟨⟨[101, 120, 105, 116]⟩⟩], 9, false⟩)).trans (by rw [← hH2_])) ?_
  refine aops_go 1 60 (by kernel_rfl) ?_
  refine aops_end (by kernel_rfl) (then_normal ?_)
  refine tw_code f13bccc_eq ?_
  refine tw_seq (tw_aw progOk10 (by kernel_rfl) ?_)
  refine aw_code f13bccca_eq ?_
  refine aw_drawU (H2_.n) ?_
  refine aopsU_go 2 (by kernel_rfl) ?_
  have gH2_H_n : H2_.get (H.n) = some ⟨[Value.int .i64 9, .int .i64 rd, .int .i64 ra, .int .i64 rb, .int .u32 im], 24, false⟩ := by rw [hH2_, Heap.get_push, if_neg (by omega)]; exact gH1_H_n
  refine aopsU_look 11 (.int .i64 9) (.pointer (some ⟨H.n, 0, none⟩)) (.tmp 10) H2_ (by kernel_rfl) (by kernel_rfl) (by kernel_rfl) (by kernel_rfl) (by kernel_rfl) (by kernel_rfl) ((by kernel_rfl : _ = aload T10 3 (.pointer (some ⟨H.n, 0, none⟩)) H2_).trans ((aload_at gH2_H_n).trans (by kernel_rfl))) (veq_int _ _) (lowB_ptr (by omega)) ((by kernel_rfl : _ = val (aload T10 3 (.pointer (some ⟨H.n, 0, none⟩)) H2_) H2_).trans (val_to ((aload_at gH2_H_n).trans (by kernel_rfl)) (by kernel_rfl))) ?_
  refine aopsU_go 1 (by kernel_rfl) ?_
  have gH2_H1__n : H2_.get (H1_.n) = some ⟨[Value.string ⟨⟨[110, 111, 112]⟩⟩, .string ⟨⟨[108, 105]⟩⟩, .string ⟨⟨[109, 111, 118]⟩⟩, .string ⟨⟨[97, 100, 100]⟩⟩, .string ⟨⟨[115, 117, 98]⟩⟩, .string ⟨⟨[97, 110, 100]⟩⟩, .string ⟨⟨[111, 114]⟩⟩, .string ⟨⟨[120, 111, 114]⟩⟩, .string ⟨⟨[115, 104, 108]⟩⟩, .string ⟨⟨[115, 104, 114]⟩⟩, .string ⟨⟨[109, 117, 108]⟩⟩, .string ⟨⟨[100, 105, 118]⟩⟩, .string ⟨⟨[108, 116, 117]⟩⟩, .string ⟨⟨[101, 113]⟩⟩, .string ⟨⟨[108, 100]⟩⟩, .string ⟨⟨[115, 116]⟩⟩, .string ⟨⟨[98, 101, 113, 122]⟩⟩, .string ⟨⟨[98, 110, 101, 122]⟩⟩, .string ⟨⟨[106, 109, 112]⟩⟩, .string ⟨⟨[101, 120, 105, 116]⟩⟩], 9, false⟩ := by rw [hH2_]; exact (Heap.get_push _ _ _).trans (if_pos rfl)
  refine aopsU_look 13 (.string ⟨⟨[115, 104, 114]⟩⟩) (.pointer (some ⟨H1_.n, 9, none⟩)) (.tmp 12) H2_ (by kernel_rfl) (by kernel_rfl) (by kernel_rfl) (by kernel_rfl) (by kernel_rfl) (by kernel_rfl) ((by kernel_rfl : _ = aload T10 9 (.pointer (some ⟨H1_.n, 9, none⟩)) H2_).trans ((aload_at gH2_H1__n).trans (by kernel_rfl))) (by simp [veq, veqs, veq0]) (lowB_ptr (by omega)) ((by kernel_rfl : _ = val (aload T10 9 (.pointer (some ⟨H1_.n, 9, none⟩)) H2_) H2_).trans (val_to ((aload_at gH2_H1__n).trans (by kernel_rfl)) (by kernel_rfl))) ?_
  refine aopsU_go 1 (by kernel_rfl) ?_
  refine aopsU_look 15 (.int .i64 rd) (.pointer (some ⟨H.n, 1, none⟩)) (.tmp 14) H2_ (by kernel_rfl) (by kernel_rfl) (by kernel_rfl) (by kernel_rfl) (by kernel_rfl) (by kernel_rfl) ((by kernel_rfl : _ = aload T10 3 (.pointer (some ⟨H.n, 1, none⟩)) H2_).trans ((aload_at gH2_H_n).trans (by kernel_rfl))) (veq_int _ _) (lowB_ptr (by omega)) ((by kernel_rfl : _ = val (aload T10 3 (.pointer (some ⟨H.n, 1, none⟩)) H2_) H2_).trans (val_to ((aload_at gH2_H_n).trans (by kernel_rfl)) (by kernel_rfl))) ?_
  refine aopsU_ask 16 (.string (dec rd)) 23 #[.int .i64 rd] (by kernel_rfl) (by kernel_rfl) (by kernel_rfl) (by kernel_rfl) (orc23 rd h1) ?_
  refine aopsU_go 1 (by kernel_rfl) ?_
  refine aopsU_look 18 (.int .i64 ra) (.pointer (some ⟨H.n, 2, none⟩)) (.tmp 17) H2_ (by kernel_rfl) (by kernel_rfl) (by kernel_rfl) (by kernel_rfl) (by kernel_rfl) (by kernel_rfl) ((by kernel_rfl : _ = aload T10 3 (.pointer (some ⟨H.n, 2, none⟩)) H2_).trans ((aload_at gH2_H_n).trans (by kernel_rfl))) (veq_int _ _) (lowB_ptr (by omega)) ((by kernel_rfl : _ = val (aload T10 3 (.pointer (some ⟨H.n, 2, none⟩)) H2_) H2_).trans (val_to ((aload_at gH2_H_n).trans (by kernel_rfl)) (by kernel_rfl))) ?_
  refine aopsU_ask 19 (.string (dec ra)) 23 #[.int .i64 ra] (by kernel_rfl) (by kernel_rfl) (by kernel_rfl) (by kernel_rfl) (orc23 ra h2) ?_
  refine aopsU_go 1 (by kernel_rfl) ?_
  refine aopsU_look 21 (.int .i64 rb) (.pointer (some ⟨H.n, 3, none⟩)) (.tmp 20) H2_ (by kernel_rfl) (by kernel_rfl) (by kernel_rfl) (by kernel_rfl) (by kernel_rfl) (by kernel_rfl) ((by kernel_rfl : _ = aload T10 3 (.pointer (some ⟨H.n, 3, none⟩)) H2_).trans ((aload_at gH2_H_n).trans (by kernel_rfl))) (veq_int _ _) (lowB_ptr (by omega)) ((by kernel_rfl : _ = val (aload T10 3 (.pointer (some ⟨H.n, 3, none⟩)) H2_) H2_).trans (val_to ((aload_at gH2_H_n).trans (by kernel_rfl)) (by kernel_rfl))) ?_
  refine aopsU_ask 22 (.string (dec rb)) 23 #[.int .i64 rb] (by kernel_rfl) (by kernel_rfl) (by kernel_rfl) (by kernel_rfl) (orc23 rb h3) ?_
  refine aopsU_go 1 (by kernel_rfl) ?_
  refine aopsU_look 24 (.int .u32 im) (.pointer (some ⟨H.n, 4, none⟩)) (.tmp 23) H2_ (by kernel_rfl) (by kernel_rfl) (by kernel_rfl) (by kernel_rfl) (by kernel_rfl) (by kernel_rfl) ((by kernel_rfl : _ = aload T10 22 (.pointer (some ⟨H.n, 4, none⟩)) H2_).trans ((aload_at gH2_H_n).trans (by kernel_rfl))) (veq_int _ _) (lowB_ptr (by omega)) ((by kernel_rfl : _ = val (aload T10 22 (.pointer (some ⟨H.n, 4, none⟩)) H2_) H2_).trans (val_to ((aload_at gH2_H_n).trans (by kernel_rfl)) (by kernel_rfl))) ?_
  refine aopsU_pt 25 (.int .u64 (IntKind.u64.wrap im)) (by kernel_rfl) (by kernel_rfl) (by kernel_rfl) (by kernel_rfl) (by kernel_rfl) ?_
  refine aopsU_see 25 (.int .u64 im) (see_int (x := IntKind.u64.wrap im) (by kernel_rfl) (wu64 rfl (by omega) (by omega))) ?_
  refine aopsU_ask 26 (.string (dec im)) 24 #[.int .u64 im, .int .i64 10] (by kernel_rfl) (by kernel_rfl) (by kernel_rfl) (by kernel_rfl) (orc24 im hi64) ?_
  obtain ⟨H3_, hH3_⟩ : ∃ x : Heap, x = H2_.push ⟨[Value.string ⟨⟨[115, 104, 114]⟩⟩, .string (dec rd), .string (dec ra), .string (dec rb), .string (dec im)], 9, false⟩ := ⟨_, rfl⟩
  have nH3_ : H3_.n = H2_.n + 1 := by rw [hH3_]; rfl
  refine aopsU_mk 27 (.slice (some ⟨H2_.n, 0, none⟩) 5 5) H2_ H3_ (by kernel_rfl) (by kernel_rfl) (by kernel_rfl) (by kernel_rfl) ((by kernel_rfl : _ = some (Res.val (.slice (some ⟨H2_.n, 0, none⟩) 5 5), H2_.push ⟨[Value.string ⟨⟨[115, 104, 114]⟩⟩, .string (dec rd), .string (dec ra), .string (dec rb), .string (dec im)], 9, false⟩)).trans (by rw [← hH3_])) (by kernel_rfl) (hH3_ ▸ Up.push (by omega) (Up.refl _) _) ?_
  refine aopsU_go 1 (by kernel_rfl) ?_
  refine aopsU_end (by kernel_rfl) (then_normal ?_)
  have gH3_H2__n : H3_.get (H2_.n) = some ⟨[Value.string ⟨⟨[115, 104, 114]⟩⟩, .string (dec rd), .string (dec ra), .string (dec rb), .string (dec im)], 9, false⟩ := by rw [hH3_]; exact (Heap.get_push _ _ _).trans (if_pos rfl)
  refine tw_code f13bcccc_eq ?_
  refine tw_code (congrArg (Code.seq · .ret) f13bcccca_eq) ?_
  refine tw_seq (tw_region (T := T10) progOk10 (joinF_ok (B := H2_.n) (c := 5) (xs := [nameV 9, dec rd, dec ra, dec rb, dec im]) (sep := ⟨⟨[32]⟩⟩) (e := 9) (by simp) (by simp) (by simp [unk]) (by rw [joinS_eq]; have := textR_size (op := 9) h1u h2u h3u hi; omega)) joinF_grows (by kernel_rfl) (join_step (B := H2_.n) (H := H3_) (by kernel_rfl) (s4 := (by kernel_rfl)) (x := joinS [nameV 9, dec rd, dec ra, dec rb, dec im] ⟨⟨[32]⟩⟩) (hx := joinF_eq (xs := [nameV 9, dec rd, dec ra, dec rb, dec im]) (gH3_H2__n.trans (by kernel_rfl)))) ?_)
  refine then_normal ?_
  exact tw_ret ⟨.string (joinS [nameV 9, dec rd, dec ra, dec rb, dec im] ⟨⟨[32]⟩⟩), by kernel_rfl, by rw [joinS_eq]; unfold textV; rw [hr]; rfl⟩
theorem f13_10 [Bs] [Tb] {rd ra rb im : Int} {H : Heap} (hr : rightV 10 rd ra rb im = true) (h1 : regV rd = true) (h2 : regV ra = true) (h3 : regV rb = true) (hi : u32B im = true) (w0 : World) : Tw Tryd.prog 30 w0 f13b (RetIs T10 Tryd.f13.results fun r _ => r = .string (textV 10 rd ra rb im)) ⟨initTm 0 #[.agg #[.int .i64 10, .int .i64 rd, .int .i64 ra, .int .i64 rb, .int .u32 im]], H⟩ := by
  have hi64 := u32_64 hi; have h1u := reg_u32 h1; have h2u := reg_u32 h2; have h3u := reg_u32 h3; have hi2 := hi; simp only [u32B, Bool.and_eq_true, decide_eq_true_eq] at hi2
  refine tw_code f13b_eq ?_
  refine tw_seq (tw_aw progOk10 (by kernel_rfl) ?_)
  refine aw_code f13ba_eq ?_
  refine aw_reg ?_
  obtain ⟨H1_, hH1_⟩ : ∃ x : Heap, x = H.push ⟨[Value.int .i64 10, .int .i64 rd, .int .i64 ra, .int .i64 rb, .int .u32 im], 24, false⟩ := ⟨_, rfl⟩
  have nH1_ : H1_.n = H.n + 1 := by rw [hH1_]; rfl
  refine aops_val 1 (.pointer (some ⟨H.n, 0, none⟩)) H1_ (by kernel_rfl) (by kernel_rfl) (by kernel_rfl) ((by kernel_rfl : _ = some (Res.val (.pointer (some ⟨H.n, 0, none⟩)), H.push ⟨[Value.int .i64 10, .int .i64 rd, .int .i64 ra, .int .i64 rb, .int .u32 im], 24, false⟩)).trans (by rw [← hH1_])) ?_
  refine aops_go 1 60 (by kernel_rfl) ?_
  refine aops_end (by kernel_rfl) (then_normal ?_)
  refine tw_code f13bc_eq ?_
  refine tw_seq (tw_aw progOk10 (by kernel_rfl) ?_)
  refine aw_code f13bca_eq ?_
  refine aw_then ?_
  refine aw_code f13bcaa_eq ?_
  refine aw_reg ?_
  have gH1_H_n : H1_.get (H.n) = some ⟨[Value.int .i64 10, .int .i64 rd, .int .i64 ra, .int .i64 rb, .int .u32 im], 24, false⟩ := by rw [hH1_]; exact (Heap.get_push _ _ _).trans (if_pos rfl)
  refine aops_val 5 (.agg #[.int .i64 10, .int .i64 rd, .int .i64 ra, .int .i64 rb, .int .u32 im]) H1_ (by kernel_rfl) (by kernel_rfl) (by kernel_rfl) ((by kernel_rfl : _ = val (aload T10 24 (.pointer (some ⟨H.n, 0, none⟩)) H1_) H1_).trans (val_of ((aload_at gH1_H_n).trans (by kernel_rfl)))) ?_
  refine aops_ask 6 (.bool true) 19 #[.agg #[.int .i64 10, .int .i64 rd, .int .i64 ra, .int .i64 rb, .int .u32 im]] (by kernel_rfl) (by kernel_rfl) (by kernel_rfl) (by kernel_rfl) (show some (Value.bool (rightV 10 rd ra rb im)) = _ by rw [hr]) ?_
  refine aops_go 1 60 (by kernel_rfl) ?_
  refine aops_end (by kernel_rfl) (then_normal ?_)
  refine aw_code f13bcac_eq ?_
  refine aw_cond (t := false) (by kernel_rfl) ?_
  refine aw_skip (then_normal ?_)
  refine tw_code f13bcc_eq ?_
  refine tw_seq (tw_aw progOk10 (by kernel_rfl) ?_)
  refine aw_code f13bcca_eq ?_
  refine aw_reg ?_
  obtain ⟨H2_, hH2_⟩ : ∃ x : Heap, x = H1_.push ⟨[Value.string ⟨⟨[110, 111, 112]⟩⟩, .string ⟨⟨[108, 105]⟩⟩, .string ⟨⟨[109, 111, 118]⟩⟩, .string ⟨⟨[97, 100, 100]⟩⟩, .string ⟨⟨[115, 117, 98]⟩⟩, .string ⟨⟨[97, 110, 100]⟩⟩, .string ⟨⟨[111, 114]⟩⟩, .string ⟨⟨[120, 111, 114]⟩⟩, .string ⟨⟨[115, 104, 108]⟩⟩, .string ⟨⟨[115, 104, 114]⟩⟩, .string ⟨⟨[109, 117, 108]⟩⟩, .string ⟨⟨[100, 105, 118]⟩⟩, .string ⟨⟨[108, 116, 117]⟩⟩, .string ⟨⟨[101, 113]⟩⟩, .string ⟨⟨[108, 100]⟩⟩, .string ⟨⟨[115, 116]⟩⟩, .string ⟨⟨[98, 101, 113, 122]⟩⟩, .string ⟨⟨[98, 110, 101, 122]⟩⟩, .string ⟨⟨[106, 109, 112]⟩⟩, .string ⟨⟨[101, 120, 105, 116]⟩⟩], 9, false⟩ := ⟨_, rfl⟩
  have nH2_ : H2_.n = H1_.n + 1 := by rw [hH2_]; rfl
  refine aops_val 8 (.slice (some ⟨H1_.n, 0, none⟩) 20 20) H2_ (by kernel_rfl) (by kernel_rfl) (by kernel_rfl) ((by kernel_rfl : _ = some (Res.val (.slice (some ⟨H1_.n, 0, none⟩) 20 20), H1_.push ⟨[Value.string ⟨⟨[110, 111, 112]⟩⟩, .string ⟨⟨[108, 105]⟩⟩, .string ⟨⟨[109, 111, 118]⟩⟩, .string ⟨⟨[97, 100, 100]⟩⟩, .string ⟨⟨[115, 117, 98]⟩⟩, .string ⟨⟨[97, 110, 100]⟩⟩, .string ⟨⟨[111, 114]⟩⟩, .string ⟨⟨[120, 111, 114]⟩⟩, .string ⟨⟨[115, 104, 108]⟩⟩, .string ⟨⟨[115, 104, 114]⟩⟩, .string ⟨⟨[109, 117, 108]⟩⟩, .string ⟨⟨[100, 105, 118]⟩⟩, .string ⟨⟨[108, 116, 117]⟩⟩, .string ⟨⟨[101, 113]⟩⟩, .string ⟨⟨[108, 100]⟩⟩, .string ⟨⟨[115, 116]⟩⟩, .string ⟨⟨[98, 101, 113, 122]⟩⟩, .string ⟨⟨[98, 110, 101, 122]⟩⟩, .string ⟨⟨[106, 109, 112]⟩⟩, .string ⟨⟨[101, 120, 105, 116]⟩⟩], 9, false⟩)).trans (by rw [← hH2_])) ?_
  refine aops_go 1 60 (by kernel_rfl) ?_
  refine aops_end (by kernel_rfl) (then_normal ?_)
  refine tw_code f13bccc_eq ?_
  refine tw_seq (tw_aw progOk10 (by kernel_rfl) ?_)
  refine aw_code f13bccca_eq ?_
  refine aw_drawU (H2_.n) ?_
  refine aopsU_go 2 (by kernel_rfl) ?_
  have gH2_H_n : H2_.get (H.n) = some ⟨[Value.int .i64 10, .int .i64 rd, .int .i64 ra, .int .i64 rb, .int .u32 im], 24, false⟩ := by rw [hH2_, Heap.get_push, if_neg (by omega)]; exact gH1_H_n
  refine aopsU_look 11 (.int .i64 10) (.pointer (some ⟨H.n, 0, none⟩)) (.tmp 10) H2_ (by kernel_rfl) (by kernel_rfl) (by kernel_rfl) (by kernel_rfl) (by kernel_rfl) (by kernel_rfl) ((by kernel_rfl : _ = aload T10 3 (.pointer (some ⟨H.n, 0, none⟩)) H2_).trans ((aload_at gH2_H_n).trans (by kernel_rfl))) (veq_int _ _) (lowB_ptr (by omega)) ((by kernel_rfl : _ = val (aload T10 3 (.pointer (some ⟨H.n, 0, none⟩)) H2_) H2_).trans (val_to ((aload_at gH2_H_n).trans (by kernel_rfl)) (by kernel_rfl))) ?_
  refine aopsU_go 1 (by kernel_rfl) ?_
  have gH2_H1__n : H2_.get (H1_.n) = some ⟨[Value.string ⟨⟨[110, 111, 112]⟩⟩, .string ⟨⟨[108, 105]⟩⟩, .string ⟨⟨[109, 111, 118]⟩⟩, .string ⟨⟨[97, 100, 100]⟩⟩, .string ⟨⟨[115, 117, 98]⟩⟩, .string ⟨⟨[97, 110, 100]⟩⟩, .string ⟨⟨[111, 114]⟩⟩, .string ⟨⟨[120, 111, 114]⟩⟩, .string ⟨⟨[115, 104, 108]⟩⟩, .string ⟨⟨[115, 104, 114]⟩⟩, .string ⟨⟨[109, 117, 108]⟩⟩, .string ⟨⟨[100, 105, 118]⟩⟩, .string ⟨⟨[108, 116, 117]⟩⟩, .string ⟨⟨[101, 113]⟩⟩, .string ⟨⟨[108, 100]⟩⟩, .string ⟨⟨[115, 116]⟩⟩, .string ⟨⟨[98, 101, 113, 122]⟩⟩, .string ⟨⟨[98, 110, 101, 122]⟩⟩, .string ⟨⟨[106, 109, 112]⟩⟩, .string ⟨⟨[101, 120, 105, 116]⟩⟩], 9, false⟩ := by rw [hH2_]; exact (Heap.get_push _ _ _).trans (if_pos rfl)
  refine aopsU_look 13 (.string ⟨⟨[109, 117, 108]⟩⟩) (.pointer (some ⟨H1_.n, 10, none⟩)) (.tmp 12) H2_ (by kernel_rfl) (by kernel_rfl) (by kernel_rfl) (by kernel_rfl) (by kernel_rfl) (by kernel_rfl) ((by kernel_rfl : _ = aload T10 9 (.pointer (some ⟨H1_.n, 10, none⟩)) H2_).trans ((aload_at gH2_H1__n).trans (by kernel_rfl))) (by simp [veq, veqs, veq0]) (lowB_ptr (by omega)) ((by kernel_rfl : _ = val (aload T10 9 (.pointer (some ⟨H1_.n, 10, none⟩)) H2_) H2_).trans (val_to ((aload_at gH2_H1__n).trans (by kernel_rfl)) (by kernel_rfl))) ?_
  refine aopsU_go 1 (by kernel_rfl) ?_
  refine aopsU_look 15 (.int .i64 rd) (.pointer (some ⟨H.n, 1, none⟩)) (.tmp 14) H2_ (by kernel_rfl) (by kernel_rfl) (by kernel_rfl) (by kernel_rfl) (by kernel_rfl) (by kernel_rfl) ((by kernel_rfl : _ = aload T10 3 (.pointer (some ⟨H.n, 1, none⟩)) H2_).trans ((aload_at gH2_H_n).trans (by kernel_rfl))) (veq_int _ _) (lowB_ptr (by omega)) ((by kernel_rfl : _ = val (aload T10 3 (.pointer (some ⟨H.n, 1, none⟩)) H2_) H2_).trans (val_to ((aload_at gH2_H_n).trans (by kernel_rfl)) (by kernel_rfl))) ?_
  refine aopsU_ask 16 (.string (dec rd)) 23 #[.int .i64 rd] (by kernel_rfl) (by kernel_rfl) (by kernel_rfl) (by kernel_rfl) (orc23 rd h1) ?_
  refine aopsU_go 1 (by kernel_rfl) ?_
  refine aopsU_look 18 (.int .i64 ra) (.pointer (some ⟨H.n, 2, none⟩)) (.tmp 17) H2_ (by kernel_rfl) (by kernel_rfl) (by kernel_rfl) (by kernel_rfl) (by kernel_rfl) (by kernel_rfl) ((by kernel_rfl : _ = aload T10 3 (.pointer (some ⟨H.n, 2, none⟩)) H2_).trans ((aload_at gH2_H_n).trans (by kernel_rfl))) (veq_int _ _) (lowB_ptr (by omega)) ((by kernel_rfl : _ = val (aload T10 3 (.pointer (some ⟨H.n, 2, none⟩)) H2_) H2_).trans (val_to ((aload_at gH2_H_n).trans (by kernel_rfl)) (by kernel_rfl))) ?_
  refine aopsU_ask 19 (.string (dec ra)) 23 #[.int .i64 ra] (by kernel_rfl) (by kernel_rfl) (by kernel_rfl) (by kernel_rfl) (orc23 ra h2) ?_
  refine aopsU_go 1 (by kernel_rfl) ?_
  refine aopsU_look 21 (.int .i64 rb) (.pointer (some ⟨H.n, 3, none⟩)) (.tmp 20) H2_ (by kernel_rfl) (by kernel_rfl) (by kernel_rfl) (by kernel_rfl) (by kernel_rfl) (by kernel_rfl) ((by kernel_rfl : _ = aload T10 3 (.pointer (some ⟨H.n, 3, none⟩)) H2_).trans ((aload_at gH2_H_n).trans (by kernel_rfl))) (veq_int _ _) (lowB_ptr (by omega)) ((by kernel_rfl : _ = val (aload T10 3 (.pointer (some ⟨H.n, 3, none⟩)) H2_) H2_).trans (val_to ((aload_at gH2_H_n).trans (by kernel_rfl)) (by kernel_rfl))) ?_
  refine aopsU_ask 22 (.string (dec rb)) 23 #[.int .i64 rb] (by kernel_rfl) (by kernel_rfl) (by kernel_rfl) (by kernel_rfl) (orc23 rb h3) ?_
  refine aopsU_go 1 (by kernel_rfl) ?_
  refine aopsU_look 24 (.int .u32 im) (.pointer (some ⟨H.n, 4, none⟩)) (.tmp 23) H2_ (by kernel_rfl) (by kernel_rfl) (by kernel_rfl) (by kernel_rfl) (by kernel_rfl) (by kernel_rfl) ((by kernel_rfl : _ = aload T10 22 (.pointer (some ⟨H.n, 4, none⟩)) H2_).trans ((aload_at gH2_H_n).trans (by kernel_rfl))) (veq_int _ _) (lowB_ptr (by omega)) ((by kernel_rfl : _ = val (aload T10 22 (.pointer (some ⟨H.n, 4, none⟩)) H2_) H2_).trans (val_to ((aload_at gH2_H_n).trans (by kernel_rfl)) (by kernel_rfl))) ?_
  refine aopsU_pt 25 (.int .u64 (IntKind.u64.wrap im)) (by kernel_rfl) (by kernel_rfl) (by kernel_rfl) (by kernel_rfl) (by kernel_rfl) ?_
  refine aopsU_see 25 (.int .u64 im) (see_int (x := IntKind.u64.wrap im) (by kernel_rfl) (wu64 rfl (by omega) (by omega))) ?_
  refine aopsU_ask 26 (.string (dec im)) 24 #[.int .u64 im, .int .i64 10] (by kernel_rfl) (by kernel_rfl) (by kernel_rfl) (by kernel_rfl) (orc24 im hi64) ?_
  obtain ⟨H3_, hH3_⟩ : ∃ x : Heap, x = H2_.push ⟨[Value.string ⟨⟨[109, 117, 108]⟩⟩, .string (dec rd), .string (dec ra), .string (dec rb), .string (dec im)], 9, false⟩ := ⟨_, rfl⟩
  have nH3_ : H3_.n = H2_.n + 1 := by rw [hH3_]; rfl
  refine aopsU_mk 27 (.slice (some ⟨H2_.n, 0, none⟩) 5 5) H2_ H3_ (by kernel_rfl) (by kernel_rfl) (by kernel_rfl) (by kernel_rfl) ((by kernel_rfl : _ = some (Res.val (.slice (some ⟨H2_.n, 0, none⟩) 5 5), H2_.push ⟨[Value.string ⟨⟨[109, 117, 108]⟩⟩, .string (dec rd), .string (dec ra), .string (dec rb), .string (dec im)], 9, false⟩)).trans (by rw [← hH3_])) (by kernel_rfl) (hH3_ ▸ Up.push (by omega) (Up.refl _) _) ?_
  refine aopsU_go 1 (by kernel_rfl) ?_
  refine aopsU_end (by kernel_rfl) (then_normal ?_)
  have gH3_H2__n : H3_.get (H2_.n) = some ⟨[Value.string ⟨⟨[109, 117, 108]⟩⟩, .string (dec rd), .string (dec ra), .string (dec rb), .string (dec im)], 9, false⟩ := by rw [hH3_]; exact (Heap.get_push _ _ _).trans (if_pos rfl)
  refine tw_code f13bcccc_eq ?_
  refine tw_code (congrArg (Code.seq · .ret) f13bcccca_eq) ?_
  refine tw_seq (tw_region (T := T10) progOk10 (joinF_ok (B := H2_.n) (c := 5) (xs := [nameV 10, dec rd, dec ra, dec rb, dec im]) (sep := ⟨⟨[32]⟩⟩) (e := 9) (by simp) (by simp) (by simp [unk]) (by rw [joinS_eq]; have := textR_size (op := 10) h1u h2u h3u hi; omega)) joinF_grows (by kernel_rfl) (join_step (B := H2_.n) (H := H3_) (by kernel_rfl) (s4 := (by kernel_rfl)) (x := joinS [nameV 10, dec rd, dec ra, dec rb, dec im] ⟨⟨[32]⟩⟩) (hx := joinF_eq (xs := [nameV 10, dec rd, dec ra, dec rb, dec im]) (gH3_H2__n.trans (by kernel_rfl)))) ?_)
  refine then_normal ?_
  exact tw_ret ⟨.string (joinS [nameV 10, dec rd, dec ra, dec rb, dec im] ⟨⟨[32]⟩⟩), by kernel_rfl, by rw [joinS_eq]; unfold textV; rw [hr]; rfl⟩
theorem f13_11 [Bs] [Tb] {rd ra rb im : Int} {H : Heap} (hr : rightV 11 rd ra rb im = true) (h1 : regV rd = true) (h2 : regV ra = true) (h3 : regV rb = true) (hi : u32B im = true) (w0 : World) : Tw Tryd.prog 30 w0 f13b (RetIs T10 Tryd.f13.results fun r _ => r = .string (textV 11 rd ra rb im)) ⟨initTm 0 #[.agg #[.int .i64 11, .int .i64 rd, .int .i64 ra, .int .i64 rb, .int .u32 im]], H⟩ := by
  have hi64 := u32_64 hi; have h1u := reg_u32 h1; have h2u := reg_u32 h2; have h3u := reg_u32 h3; have hi2 := hi; simp only [u32B, Bool.and_eq_true, decide_eq_true_eq] at hi2
  refine tw_code f13b_eq ?_
  refine tw_seq (tw_aw progOk10 (by kernel_rfl) ?_)
  refine aw_code f13ba_eq ?_
  refine aw_reg ?_
  obtain ⟨H1_, hH1_⟩ : ∃ x : Heap, x = H.push ⟨[Value.int .i64 11, .int .i64 rd, .int .i64 ra, .int .i64 rb, .int .u32 im], 24, false⟩ := ⟨_, rfl⟩
  have nH1_ : H1_.n = H.n + 1 := by rw [hH1_]; rfl
  refine aops_val 1 (.pointer (some ⟨H.n, 0, none⟩)) H1_ (by kernel_rfl) (by kernel_rfl) (by kernel_rfl) ((by kernel_rfl : _ = some (Res.val (.pointer (some ⟨H.n, 0, none⟩)), H.push ⟨[Value.int .i64 11, .int .i64 rd, .int .i64 ra, .int .i64 rb, .int .u32 im], 24, false⟩)).trans (by rw [← hH1_])) ?_
  refine aops_go 1 60 (by kernel_rfl) ?_
  refine aops_end (by kernel_rfl) (then_normal ?_)
  refine tw_code f13bc_eq ?_
  refine tw_seq (tw_aw progOk10 (by kernel_rfl) ?_)
  refine aw_code f13bca_eq ?_
  refine aw_then ?_
  refine aw_code f13bcaa_eq ?_
  refine aw_reg ?_
  have gH1_H_n : H1_.get (H.n) = some ⟨[Value.int .i64 11, .int .i64 rd, .int .i64 ra, .int .i64 rb, .int .u32 im], 24, false⟩ := by rw [hH1_]; exact (Heap.get_push _ _ _).trans (if_pos rfl)
  refine aops_val 5 (.agg #[.int .i64 11, .int .i64 rd, .int .i64 ra, .int .i64 rb, .int .u32 im]) H1_ (by kernel_rfl) (by kernel_rfl) (by kernel_rfl) ((by kernel_rfl : _ = val (aload T10 24 (.pointer (some ⟨H.n, 0, none⟩)) H1_) H1_).trans (val_of ((aload_at gH1_H_n).trans (by kernel_rfl)))) ?_
  refine aops_ask 6 (.bool true) 19 #[.agg #[.int .i64 11, .int .i64 rd, .int .i64 ra, .int .i64 rb, .int .u32 im]] (by kernel_rfl) (by kernel_rfl) (by kernel_rfl) (by kernel_rfl) (show some (Value.bool (rightV 11 rd ra rb im)) = _ by rw [hr]) ?_
  refine aops_go 1 60 (by kernel_rfl) ?_
  refine aops_end (by kernel_rfl) (then_normal ?_)
  refine aw_code f13bcac_eq ?_
  refine aw_cond (t := false) (by kernel_rfl) ?_
  refine aw_skip (then_normal ?_)
  refine tw_code f13bcc_eq ?_
  refine tw_seq (tw_aw progOk10 (by kernel_rfl) ?_)
  refine aw_code f13bcca_eq ?_
  refine aw_reg ?_
  obtain ⟨H2_, hH2_⟩ : ∃ x : Heap, x = H1_.push ⟨[Value.string ⟨⟨[110, 111, 112]⟩⟩, .string ⟨⟨[108, 105]⟩⟩, .string ⟨⟨[109, 111, 118]⟩⟩, .string ⟨⟨[97, 100, 100]⟩⟩, .string ⟨⟨[115, 117, 98]⟩⟩, .string ⟨⟨[97, 110, 100]⟩⟩, .string ⟨⟨[111, 114]⟩⟩, .string ⟨⟨[120, 111, 114]⟩⟩, .string ⟨⟨[115, 104, 108]⟩⟩, .string ⟨⟨[115, 104, 114]⟩⟩, .string ⟨⟨[109, 117, 108]⟩⟩, .string ⟨⟨[100, 105, 118]⟩⟩, .string ⟨⟨[108, 116, 117]⟩⟩, .string ⟨⟨[101, 113]⟩⟩, .string ⟨⟨[108, 100]⟩⟩, .string ⟨⟨[115, 116]⟩⟩, .string ⟨⟨[98, 101, 113, 122]⟩⟩, .string ⟨⟨[98, 110, 101, 122]⟩⟩, .string ⟨⟨[106, 109, 112]⟩⟩, .string ⟨⟨[101, 120, 105, 116]⟩⟩], 9, false⟩ := ⟨_, rfl⟩
  have nH2_ : H2_.n = H1_.n + 1 := by rw [hH2_]; rfl
  refine aops_val 8 (.slice (some ⟨H1_.n, 0, none⟩) 20 20) H2_ (by kernel_rfl) (by kernel_rfl) (by kernel_rfl) ((by kernel_rfl : _ = some (Res.val (.slice (some ⟨H1_.n, 0, none⟩) 20 20), H1_.push ⟨[Value.string ⟨⟨[110, 111, 112]⟩⟩, .string ⟨⟨[108, 105]⟩⟩, .string ⟨⟨[109, 111, 118]⟩⟩, .string ⟨⟨[97, 100, 100]⟩⟩, .string ⟨⟨[115, 117, 98]⟩⟩, .string ⟨⟨[97, 110, 100]⟩⟩, .string ⟨⟨[111, 114]⟩⟩, .string ⟨⟨[120, 111, 114]⟩⟩, .string ⟨⟨[115, 104, 108]⟩⟩, .string ⟨⟨[115, 104, 114]⟩⟩, .string ⟨⟨[109, 117, 108]⟩⟩, .string ⟨⟨[100, 105, 118]⟩⟩, .string ⟨⟨[108, 116, 117]⟩⟩, .string ⟨⟨[101, 113]⟩⟩, .string ⟨⟨[108, 100]⟩⟩, .string ⟨⟨[115, 116]⟩⟩, .string ⟨⟨[98, 101, 113, 122]⟩⟩, .string ⟨⟨[98, 110, 101, 122]⟩⟩, .string ⟨⟨[106, 109, 112]⟩⟩, .string ⟨⟨[101, 120, 105, 116]⟩⟩], 9, false⟩)).trans (by rw [← hH2_])) ?_
  refine aops_go 1 60 (by kernel_rfl) ?_
  refine aops_end (by kernel_rfl) (then_normal ?_)
  refine tw_code f13bccc_eq ?_
  refine tw_seq (tw_aw progOk10 (by kernel_rfl) ?_)
  refine aw_code f13bccca_eq ?_
  refine aw_drawU (H2_.n) ?_
  refine aopsU_go 2 (by kernel_rfl) ?_
  have gH2_H_n : H2_.get (H.n) = some ⟨[Value.int .i64 11, .int .i64 rd, .int .i64 ra, .int .i64 rb, .int .u32 im], 24, false⟩ := by rw [hH2_, Heap.get_push, if_neg (by omega)]; exact gH1_H_n
  refine aopsU_look 11 (.int .i64 11) (.pointer (some ⟨H.n, 0, none⟩)) (.tmp 10) H2_ (by kernel_rfl) (by kernel_rfl) (by kernel_rfl) (by kernel_rfl) (by kernel_rfl) (by kernel_rfl) ((by kernel_rfl : _ = aload T10 3 (.pointer (some ⟨H.n, 0, none⟩)) H2_).trans ((aload_at gH2_H_n).trans (by kernel_rfl))) (veq_int _ _) (lowB_ptr (by omega)) ((by kernel_rfl : _ = val (aload T10 3 (.pointer (some ⟨H.n, 0, none⟩)) H2_) H2_).trans (val_to ((aload_at gH2_H_n).trans (by kernel_rfl)) (by kernel_rfl))) ?_
  refine aopsU_go 1 (by kernel_rfl) ?_
  have gH2_H1__n : H2_.get (H1_.n) = some ⟨[Value.string ⟨⟨[110, 111, 112]⟩⟩, .string ⟨⟨[108, 105]⟩⟩, .string ⟨⟨[109, 111, 118]⟩⟩, .string ⟨⟨[97, 100, 100]⟩⟩, .string ⟨⟨[115, 117, 98]⟩⟩, .string ⟨⟨[97, 110, 100]⟩⟩, .string ⟨⟨[111, 114]⟩⟩, .string ⟨⟨[120, 111, 114]⟩⟩, .string ⟨⟨[115, 104, 108]⟩⟩, .string ⟨⟨[115, 104, 114]⟩⟩, .string ⟨⟨[109, 117, 108]⟩⟩, .string ⟨⟨[100, 105, 118]⟩⟩, .string ⟨⟨[108, 116, 117]⟩⟩, .string ⟨⟨[101, 113]⟩⟩, .string ⟨⟨[108, 100]⟩⟩, .string ⟨⟨[115, 116]⟩⟩, .string ⟨⟨[98, 101, 113, 122]⟩⟩, .string ⟨⟨[98, 110, 101, 122]⟩⟩, .string ⟨⟨[106, 109, 112]⟩⟩, .string ⟨⟨[101, 120, 105, 116]⟩⟩], 9, false⟩ := by rw [hH2_]; exact (Heap.get_push _ _ _).trans (if_pos rfl)
  refine aopsU_look 13 (.string ⟨⟨[100, 105, 118]⟩⟩) (.pointer (some ⟨H1_.n, 11, none⟩)) (.tmp 12) H2_ (by kernel_rfl) (by kernel_rfl) (by kernel_rfl) (by kernel_rfl) (by kernel_rfl) (by kernel_rfl) ((by kernel_rfl : _ = aload T10 9 (.pointer (some ⟨H1_.n, 11, none⟩)) H2_).trans ((aload_at gH2_H1__n).trans (by kernel_rfl))) (by simp [veq, veqs, veq0]) (lowB_ptr (by omega)) ((by kernel_rfl : _ = val (aload T10 9 (.pointer (some ⟨H1_.n, 11, none⟩)) H2_) H2_).trans (val_to ((aload_at gH2_H1__n).trans (by kernel_rfl)) (by kernel_rfl))) ?_
  refine aopsU_go 1 (by kernel_rfl) ?_
  refine aopsU_look 15 (.int .i64 rd) (.pointer (some ⟨H.n, 1, none⟩)) (.tmp 14) H2_ (by kernel_rfl) (by kernel_rfl) (by kernel_rfl) (by kernel_rfl) (by kernel_rfl) (by kernel_rfl) ((by kernel_rfl : _ = aload T10 3 (.pointer (some ⟨H.n, 1, none⟩)) H2_).trans ((aload_at gH2_H_n).trans (by kernel_rfl))) (veq_int _ _) (lowB_ptr (by omega)) ((by kernel_rfl : _ = val (aload T10 3 (.pointer (some ⟨H.n, 1, none⟩)) H2_) H2_).trans (val_to ((aload_at gH2_H_n).trans (by kernel_rfl)) (by kernel_rfl))) ?_
  refine aopsU_ask 16 (.string (dec rd)) 23 #[.int .i64 rd] (by kernel_rfl) (by kernel_rfl) (by kernel_rfl) (by kernel_rfl) (orc23 rd h1) ?_
  refine aopsU_go 1 (by kernel_rfl) ?_
  refine aopsU_look 18 (.int .i64 ra) (.pointer (some ⟨H.n, 2, none⟩)) (.tmp 17) H2_ (by kernel_rfl) (by kernel_rfl) (by kernel_rfl) (by kernel_rfl) (by kernel_rfl) (by kernel_rfl) ((by kernel_rfl : _ = aload T10 3 (.pointer (some ⟨H.n, 2, none⟩)) H2_).trans ((aload_at gH2_H_n).trans (by kernel_rfl))) (veq_int _ _) (lowB_ptr (by omega)) ((by kernel_rfl : _ = val (aload T10 3 (.pointer (some ⟨H.n, 2, none⟩)) H2_) H2_).trans (val_to ((aload_at gH2_H_n).trans (by kernel_rfl)) (by kernel_rfl))) ?_
  refine aopsU_ask 19 (.string (dec ra)) 23 #[.int .i64 ra] (by kernel_rfl) (by kernel_rfl) (by kernel_rfl) (by kernel_rfl) (orc23 ra h2) ?_
  refine aopsU_go 1 (by kernel_rfl) ?_
  refine aopsU_look 21 (.int .i64 rb) (.pointer (some ⟨H.n, 3, none⟩)) (.tmp 20) H2_ (by kernel_rfl) (by kernel_rfl) (by kernel_rfl) (by kernel_rfl) (by kernel_rfl) (by kernel_rfl) ((by kernel_rfl : _ = aload T10 3 (.pointer (some ⟨H.n, 3, none⟩)) H2_).trans ((aload_at gH2_H_n).trans (by kernel_rfl))) (veq_int _ _) (lowB_ptr (by omega)) ((by kernel_rfl : _ = val (aload T10 3 (.pointer (some ⟨H.n, 3, none⟩)) H2_) H2_).trans (val_to ((aload_at gH2_H_n).trans (by kernel_rfl)) (by kernel_rfl))) ?_
  refine aopsU_ask 22 (.string (dec rb)) 23 #[.int .i64 rb] (by kernel_rfl) (by kernel_rfl) (by kernel_rfl) (by kernel_rfl) (orc23 rb h3) ?_
  refine aopsU_go 1 (by kernel_rfl) ?_
  refine aopsU_look 24 (.int .u32 im) (.pointer (some ⟨H.n, 4, none⟩)) (.tmp 23) H2_ (by kernel_rfl) (by kernel_rfl) (by kernel_rfl) (by kernel_rfl) (by kernel_rfl) (by kernel_rfl) ((by kernel_rfl : _ = aload T10 22 (.pointer (some ⟨H.n, 4, none⟩)) H2_).trans ((aload_at gH2_H_n).trans (by kernel_rfl))) (veq_int _ _) (lowB_ptr (by omega)) ((by kernel_rfl : _ = val (aload T10 22 (.pointer (some ⟨H.n, 4, none⟩)) H2_) H2_).trans (val_to ((aload_at gH2_H_n).trans (by kernel_rfl)) (by kernel_rfl))) ?_
  refine aopsU_pt 25 (.int .u64 (IntKind.u64.wrap im)) (by kernel_rfl) (by kernel_rfl) (by kernel_rfl) (by kernel_rfl) (by kernel_rfl) ?_
  refine aopsU_see 25 (.int .u64 im) (see_int (x := IntKind.u64.wrap im) (by kernel_rfl) (wu64 rfl (by omega) (by omega))) ?_
  refine aopsU_ask 26 (.string (dec im)) 24 #[.int .u64 im, .int .i64 10] (by kernel_rfl) (by kernel_rfl) (by kernel_rfl) (by kernel_rfl) (orc24 im hi64) ?_
  obtain ⟨H3_, hH3_⟩ : ∃ x : Heap, x = H2_.push ⟨[Value.string ⟨⟨[100, 105, 118]⟩⟩, .string (dec rd), .string (dec ra), .string (dec rb), .string (dec im)], 9, false⟩ := ⟨_, rfl⟩
  have nH3_ : H3_.n = H2_.n + 1 := by rw [hH3_]; rfl
  refine aopsU_mk 27 (.slice (some ⟨H2_.n, 0, none⟩) 5 5) H2_ H3_ (by kernel_rfl) (by kernel_rfl) (by kernel_rfl) (by kernel_rfl) ((by kernel_rfl : _ = some (Res.val (.slice (some ⟨H2_.n, 0, none⟩) 5 5), H2_.push ⟨[Value.string ⟨⟨[100, 105, 118]⟩⟩, .string (dec rd), .string (dec ra), .string (dec rb), .string (dec im)], 9, false⟩)).trans (by rw [← hH3_])) (by kernel_rfl) (hH3_ ▸ Up.push (by omega) (Up.refl _) _) ?_
  refine aopsU_go 1 (by kernel_rfl) ?_
  refine aopsU_end (by kernel_rfl) (then_normal ?_)
  have gH3_H2__n : H3_.get (H2_.n) = some ⟨[Value.string ⟨⟨[100, 105, 118]⟩⟩, .string (dec rd), .string (dec ra), .string (dec rb), .string (dec im)], 9, false⟩ := by rw [hH3_]; exact (Heap.get_push _ _ _).trans (if_pos rfl)
  refine tw_code f13bcccc_eq ?_
  refine tw_code (congrArg (Code.seq · .ret) f13bcccca_eq) ?_
  refine tw_seq (tw_region (T := T10) progOk10 (joinF_ok (B := H2_.n) (c := 5) (xs := [nameV 11, dec rd, dec ra, dec rb, dec im]) (sep := ⟨⟨[32]⟩⟩) (e := 9) (by simp) (by simp) (by simp [unk]) (by rw [joinS_eq]; have := textR_size (op := 11) h1u h2u h3u hi; omega)) joinF_grows (by kernel_rfl) (join_step (B := H2_.n) (H := H3_) (by kernel_rfl) (s4 := (by kernel_rfl)) (x := joinS [nameV 11, dec rd, dec ra, dec rb, dec im] ⟨⟨[32]⟩⟩) (hx := joinF_eq (xs := [nameV 11, dec rd, dec ra, dec rb, dec im]) (gH3_H2__n.trans (by kernel_rfl)))) ?_)
  refine then_normal ?_
  exact tw_ret ⟨.string (joinS [nameV 11, dec rd, dec ra, dec rb, dec im] ⟨⟨[32]⟩⟩), by kernel_rfl, by rw [joinS_eq]; unfold textV; rw [hr]; rfl⟩
theorem f13_12 [Bs] [Tb] {rd ra rb im : Int} {H : Heap} (hr : rightV 12 rd ra rb im = true) (h1 : regV rd = true) (h2 : regV ra = true) (h3 : regV rb = true) (hi : u32B im = true) (w0 : World) : Tw Tryd.prog 30 w0 f13b (RetIs T10 Tryd.f13.results fun r _ => r = .string (textV 12 rd ra rb im)) ⟨initTm 0 #[.agg #[.int .i64 12, .int .i64 rd, .int .i64 ra, .int .i64 rb, .int .u32 im]], H⟩ := by
  have hi64 := u32_64 hi; have h1u := reg_u32 h1; have h2u := reg_u32 h2; have h3u := reg_u32 h3; have hi2 := hi; simp only [u32B, Bool.and_eq_true, decide_eq_true_eq] at hi2
  refine tw_code f13b_eq ?_
  refine tw_seq (tw_aw progOk10 (by kernel_rfl) ?_)
  refine aw_code f13ba_eq ?_
  refine aw_reg ?_
  obtain ⟨H1_, hH1_⟩ : ∃ x : Heap, x = H.push ⟨[Value.int .i64 12, .int .i64 rd, .int .i64 ra, .int .i64 rb, .int .u32 im], 24, false⟩ := ⟨_, rfl⟩
  have nH1_ : H1_.n = H.n + 1 := by rw [hH1_]; rfl
  refine aops_val 1 (.pointer (some ⟨H.n, 0, none⟩)) H1_ (by kernel_rfl) (by kernel_rfl) (by kernel_rfl) ((by kernel_rfl : _ = some (Res.val (.pointer (some ⟨H.n, 0, none⟩)), H.push ⟨[Value.int .i64 12, .int .i64 rd, .int .i64 ra, .int .i64 rb, .int .u32 im], 24, false⟩)).trans (by rw [← hH1_])) ?_
  refine aops_go 1 60 (by kernel_rfl) ?_
  refine aops_end (by kernel_rfl) (then_normal ?_)
  refine tw_code f13bc_eq ?_
  refine tw_seq (tw_aw progOk10 (by kernel_rfl) ?_)
  refine aw_code f13bca_eq ?_
  refine aw_then ?_
  refine aw_code f13bcaa_eq ?_
  refine aw_reg ?_
  have gH1_H_n : H1_.get (H.n) = some ⟨[Value.int .i64 12, .int .i64 rd, .int .i64 ra, .int .i64 rb, .int .u32 im], 24, false⟩ := by rw [hH1_]; exact (Heap.get_push _ _ _).trans (if_pos rfl)
  refine aops_val 5 (.agg #[.int .i64 12, .int .i64 rd, .int .i64 ra, .int .i64 rb, .int .u32 im]) H1_ (by kernel_rfl) (by kernel_rfl) (by kernel_rfl) ((by kernel_rfl : _ = val (aload T10 24 (.pointer (some ⟨H.n, 0, none⟩)) H1_) H1_).trans (val_of ((aload_at gH1_H_n).trans (by kernel_rfl)))) ?_
  refine aops_ask 6 (.bool true) 19 #[.agg #[.int .i64 12, .int .i64 rd, .int .i64 ra, .int .i64 rb, .int .u32 im]] (by kernel_rfl) (by kernel_rfl) (by kernel_rfl) (by kernel_rfl) (show some (Value.bool (rightV 12 rd ra rb im)) = _ by rw [hr]) ?_
  refine aops_go 1 60 (by kernel_rfl) ?_
  refine aops_end (by kernel_rfl) (then_normal ?_)
  refine aw_code f13bcac_eq ?_
  refine aw_cond (t := false) (by kernel_rfl) ?_
  refine aw_skip (then_normal ?_)
  refine tw_code f13bcc_eq ?_
  refine tw_seq (tw_aw progOk10 (by kernel_rfl) ?_)
  refine aw_code f13bcca_eq ?_
  refine aw_reg ?_
  obtain ⟨H2_, hH2_⟩ : ∃ x : Heap, x = H1_.push ⟨[Value.string ⟨⟨[110, 111, 112]⟩⟩, .string ⟨⟨[108, 105]⟩⟩, .string ⟨⟨[109, 111, 118]⟩⟩, .string ⟨⟨[97, 100, 100]⟩⟩, .string ⟨⟨[115, 117, 98]⟩⟩, .string ⟨⟨[97, 110, 100]⟩⟩, .string ⟨⟨[111, 114]⟩⟩, .string ⟨⟨[120, 111, 114]⟩⟩, .string ⟨⟨[115, 104, 108]⟩⟩, .string ⟨⟨[115, 104, 114]⟩⟩, .string ⟨⟨[109, 117, 108]⟩⟩, .string ⟨⟨[100, 105, 118]⟩⟩, .string ⟨⟨[108, 116, 117]⟩⟩, .string ⟨⟨[101, 113]⟩⟩, .string ⟨⟨[108, 100]⟩⟩, .string ⟨⟨[115, 116]⟩⟩, .string ⟨⟨[98, 101, 113, 122]⟩⟩, .string ⟨⟨[98, 110, 101, 122]⟩⟩, .string ⟨⟨[106, 109, 112]⟩⟩, .string ⟨⟨[101, 120, 105, 116]⟩⟩], 9, false⟩ := ⟨_, rfl⟩
  have nH2_ : H2_.n = H1_.n + 1 := by rw [hH2_]; rfl
  refine aops_val 8 (.slice (some ⟨H1_.n, 0, none⟩) 20 20) H2_ (by kernel_rfl) (by kernel_rfl) (by kernel_rfl) ((by kernel_rfl : _ = some (Res.val (.slice (some ⟨H1_.n, 0, none⟩) 20 20), H1_.push ⟨[Value.string ⟨⟨[110, 111, 112]⟩⟩, .string ⟨⟨[108, 105]⟩⟩, .string ⟨⟨[109, 111, 118]⟩⟩, .string ⟨⟨[97, 100, 100]⟩⟩, .string ⟨⟨[115, 117, 98]⟩⟩, .string ⟨⟨[97, 110, 100]⟩⟩, .string ⟨⟨[111, 114]⟩⟩, .string ⟨⟨[120, 111, 114]⟩⟩, .string ⟨⟨[115, 104, 108]⟩⟩, .string ⟨⟨[115, 104, 114]⟩⟩, .string ⟨⟨[109, 117, 108]⟩⟩, .string ⟨⟨[100, 105, 118]⟩⟩, .string ⟨⟨[108, 116, 117]⟩⟩, .string ⟨⟨[101, 113]⟩⟩, .string ⟨⟨[108, 100]⟩⟩, .string ⟨⟨[115, 116]⟩⟩, .string ⟨⟨[98, 101, 113, 122]⟩⟩, .string ⟨⟨[98, 110, 101, 122]⟩⟩, .string ⟨⟨[106, 109, 112]⟩⟩, .string ⟨⟨[101, 120, 105, 116]⟩⟩], 9, false⟩)).trans (by rw [← hH2_])) ?_
  refine aops_go 1 60 (by kernel_rfl) ?_
  refine aops_end (by kernel_rfl) (then_normal ?_)
  refine tw_code f13bccc_eq ?_
  refine tw_seq (tw_aw progOk10 (by kernel_rfl) ?_)
  refine aw_code f13bccca_eq ?_
  refine aw_drawU (H2_.n) ?_
  refine aopsU_go 2 (by kernel_rfl) ?_
  have gH2_H_n : H2_.get (H.n) = some ⟨[Value.int .i64 12, .int .i64 rd, .int .i64 ra, .int .i64 rb, .int .u32 im], 24, false⟩ := by rw [hH2_, Heap.get_push, if_neg (by omega)]; exact gH1_H_n
  refine aopsU_look 11 (.int .i64 12) (.pointer (some ⟨H.n, 0, none⟩)) (.tmp 10) H2_ (by kernel_rfl) (by kernel_rfl) (by kernel_rfl) (by kernel_rfl) (by kernel_rfl) (by kernel_rfl) ((by kernel_rfl : _ = aload T10 3 (.pointer (some ⟨H.n, 0, none⟩)) H2_).trans ((aload_at gH2_H_n).trans (by kernel_rfl))) (veq_int _ _) (lowB_ptr (by omega)) ((by kernel_rfl : _ = val (aload T10 3 (.pointer (some ⟨H.n, 0, none⟩)) H2_) H2_).trans (val_to ((aload_at gH2_H_n).trans (by kernel_rfl)) (by kernel_rfl))) ?_
  refine aopsU_go 1 (by kernel_rfl) ?_
  have gH2_H1__n : H2_.get (H1_.n) = some ⟨[Value.string ⟨⟨[110, 111, 112]⟩⟩, .string ⟨⟨[108, 105]⟩⟩, .string ⟨⟨[109, 111, 118]⟩⟩, .string ⟨⟨[97, 100, 100]⟩⟩, .string ⟨⟨[115, 117, 98]⟩⟩, .string ⟨⟨[97, 110, 100]⟩⟩, .string ⟨⟨[111, 114]⟩⟩, .string ⟨⟨[120, 111, 114]⟩⟩, .string ⟨⟨[115, 104, 108]⟩⟩, .string ⟨⟨[115, 104, 114]⟩⟩, .string ⟨⟨[109, 117, 108]⟩⟩, .string ⟨⟨[100, 105, 118]⟩⟩, .string ⟨⟨[108, 116, 117]⟩⟩, .string ⟨⟨[101, 113]⟩⟩, .string ⟨⟨[108, 100]⟩⟩, .string ⟨⟨[115, 116]⟩⟩, .string ⟨⟨[98, 101, 113, 122]⟩⟩, .string ⟨⟨[98, 110, 101, 122]⟩⟩, .string ⟨⟨[106, 109, 112]⟩⟩, .string ⟨⟨[101, 120, 105, 116]⟩⟩], 9, false⟩ := by rw [hH2_]; exact (Heap.get_push _ _ _).trans (if_pos rfl)
  refine aopsU_look 13 (.string ⟨⟨[108, 116, 117]⟩⟩) (.pointer (some ⟨H1_.n, 12, none⟩)) (.tmp 12) H2_ (by kernel_rfl) (by kernel_rfl) (by kernel_rfl) (by kernel_rfl) (by kernel_rfl) (by kernel_rfl) ((by kernel_rfl : _ = aload T10 9 (.pointer (some ⟨H1_.n, 12, none⟩)) H2_).trans ((aload_at gH2_H1__n).trans (by kernel_rfl))) (by simp [veq, veqs, veq0]) (lowB_ptr (by omega)) ((by kernel_rfl : _ = val (aload T10 9 (.pointer (some ⟨H1_.n, 12, none⟩)) H2_) H2_).trans (val_to ((aload_at gH2_H1__n).trans (by kernel_rfl)) (by kernel_rfl))) ?_
  refine aopsU_go 1 (by kernel_rfl) ?_
  refine aopsU_look 15 (.int .i64 rd) (.pointer (some ⟨H.n, 1, none⟩)) (.tmp 14) H2_ (by kernel_rfl) (by kernel_rfl) (by kernel_rfl) (by kernel_rfl) (by kernel_rfl) (by kernel_rfl) ((by kernel_rfl : _ = aload T10 3 (.pointer (some ⟨H.n, 1, none⟩)) H2_).trans ((aload_at gH2_H_n).trans (by kernel_rfl))) (veq_int _ _) (lowB_ptr (by omega)) ((by kernel_rfl : _ = val (aload T10 3 (.pointer (some ⟨H.n, 1, none⟩)) H2_) H2_).trans (val_to ((aload_at gH2_H_n).trans (by kernel_rfl)) (by kernel_rfl))) ?_
  refine aopsU_ask 16 (.string (dec rd)) 23 #[.int .i64 rd] (by kernel_rfl) (by kernel_rfl) (by kernel_rfl) (by kernel_rfl) (orc23 rd h1) ?_
  refine aopsU_go 1 (by kernel_rfl) ?_
  refine aopsU_look 18 (.int .i64 ra) (.pointer (some ⟨H.n, 2, none⟩)) (.tmp 17) H2_ (by kernel_rfl) (by kernel_rfl) (by kernel_rfl) (by kernel_rfl) (by kernel_rfl) (by kernel_rfl) ((by kernel_rfl : _ = aload T10 3 (.pointer (some ⟨H.n, 2, none⟩)) H2_).trans ((aload_at gH2_H_n).trans (by kernel_rfl))) (veq_int _ _) (lowB_ptr (by omega)) ((by kernel_rfl : _ = val (aload T10 3 (.pointer (some ⟨H.n, 2, none⟩)) H2_) H2_).trans (val_to ((aload_at gH2_H_n).trans (by kernel_rfl)) (by kernel_rfl))) ?_
  refine aopsU_ask 19 (.string (dec ra)) 23 #[.int .i64 ra] (by kernel_rfl) (by kernel_rfl) (by kernel_rfl) (by kernel_rfl) (orc23 ra h2) ?_
  refine aopsU_go 1 (by kernel_rfl) ?_
  refine aopsU_look 21 (.int .i64 rb) (.pointer (some ⟨H.n, 3, none⟩)) (.tmp 20) H2_ (by kernel_rfl) (by kernel_rfl) (by kernel_rfl) (by kernel_rfl) (by kernel_rfl) (by kernel_rfl) ((by kernel_rfl : _ = aload T10 3 (.pointer (some ⟨H.n, 3, none⟩)) H2_).trans ((aload_at gH2_H_n).trans (by kernel_rfl))) (veq_int _ _) (lowB_ptr (by omega)) ((by kernel_rfl : _ = val (aload T10 3 (.pointer (some ⟨H.n, 3, none⟩)) H2_) H2_).trans (val_to ((aload_at gH2_H_n).trans (by kernel_rfl)) (by kernel_rfl))) ?_
  refine aopsU_ask 22 (.string (dec rb)) 23 #[.int .i64 rb] (by kernel_rfl) (by kernel_rfl) (by kernel_rfl) (by kernel_rfl) (orc23 rb h3) ?_
  refine aopsU_go 1 (by kernel_rfl) ?_
  refine aopsU_look 24 (.int .u32 im) (.pointer (some ⟨H.n, 4, none⟩)) (.tmp 23) H2_ (by kernel_rfl) (by kernel_rfl) (by kernel_rfl) (by kernel_rfl) (by kernel_rfl) (by kernel_rfl) ((by kernel_rfl : _ = aload T10 22 (.pointer (some ⟨H.n, 4, none⟩)) H2_).trans ((aload_at gH2_H_n).trans (by kernel_rfl))) (veq_int _ _) (lowB_ptr (by omega)) ((by kernel_rfl : _ = val (aload T10 22 (.pointer (some ⟨H.n, 4, none⟩)) H2_) H2_).trans (val_to ((aload_at gH2_H_n).trans (by kernel_rfl)) (by kernel_rfl))) ?_
  refine aopsU_pt 25 (.int .u64 (IntKind.u64.wrap im)) (by kernel_rfl) (by kernel_rfl) (by kernel_rfl) (by kernel_rfl) (by kernel_rfl) ?_
  refine aopsU_see 25 (.int .u64 im) (see_int (x := IntKind.u64.wrap im) (by kernel_rfl) (wu64 rfl (by omega) (by omega))) ?_
  refine aopsU_ask 26 (.string (dec im)) 24 #[.int .u64 im, .int .i64 10] (by kernel_rfl) (by kernel_rfl) (by kernel_rfl) (by kernel_rfl) (orc24 im hi64) ?_
  obtain ⟨H3_, hH3_⟩ : ∃ x : Heap, x = H2_.push ⟨[Value.string ⟨⟨[108, 116, 117]⟩⟩, .string (dec rd), .string (dec ra), .string (dec rb), .string (dec im)], 9, false⟩ := ⟨_, rfl⟩
  have nH3_ : H3_.n = H2_.n + 1 := by rw [hH3_]; rfl
  refine aopsU_mk 27 (.slice (some ⟨H2_.n, 0, none⟩) 5 5) H2_ H3_ (by kernel_rfl) (by kernel_rfl) (by kernel_rfl) (by kernel_rfl) ((by kernel_rfl : _ = some (Res.val (.slice (some ⟨H2_.n, 0, none⟩) 5 5), H2_.push ⟨[Value.string ⟨⟨[108, 116, 117]⟩⟩, .string (dec rd), .string (dec ra), .string (dec rb), .string (dec im)], 9, false⟩)).trans (by rw [← hH3_])) (by kernel_rfl) (hH3_ ▸ Up.push (by omega) (Up.refl _) _) ?_
  refine aopsU_go 1 (by kernel_rfl) ?_
  refine aopsU_end (by kernel_rfl) (then_normal ?_)
  have gH3_H2__n : H3_.get (H2_.n) = some ⟨[Value.string ⟨⟨[108, 116, 117]⟩⟩, .string (dec rd), .string (dec ra), .string (dec rb), .string (dec im)], 9, false⟩ := by rw [hH3_]; exact (Heap.get_push _ _ _).trans (if_pos rfl)
  refine tw_code f13bcccc_eq ?_
  refine tw_code (congrArg (Code.seq · .ret) f13bcccca_eq) ?_
  refine tw_seq (tw_region (T := T10) progOk10 (joinF_ok (B := H2_.n) (c := 5) (xs := [nameV 12, dec rd, dec ra, dec rb, dec im]) (sep := ⟨⟨[32]⟩⟩) (e := 9) (by simp) (by simp) (by simp [unk]) (by rw [joinS_eq]; have := textR_size (op := 12) h1u h2u h3u hi; omega)) joinF_grows (by kernel_rfl) (join_step (B := H2_.n) (H := H3_) (by kernel_rfl) (s4 := (by kernel_rfl)) (x := joinS [nameV 12, dec rd, dec ra, dec rb, dec im] ⟨⟨[32]⟩⟩) (hx := joinF_eq (xs := [nameV 12, dec rd, dec ra, dec rb, dec im]) (gH3_H2__n.trans (by kernel_rfl)))) ?_)
  refine then_normal ?_
  exact tw_ret ⟨.string (joinS [nameV 12, dec rd, dec ra, dec rb, dec im] ⟨⟨[32]⟩⟩), by kernel_rfl, by rw [joinS_eq]; unfold textV; rw [hr]; rfl⟩
theorem f13_13 [Bs] [Tb] {rd ra rb im : Int} {H : Heap} (hr : rightV 13 rd ra rb im = true) (h1 : regV rd = true) (h2 : regV ra = true) (h3 : regV rb = true) (hi : u32B im = true) (w0 : World) : Tw Tryd.prog 30 w0 f13b (RetIs T10 Tryd.f13.results fun r _ => r = .string (textV 13 rd ra rb im)) ⟨initTm 0 #[.agg #[.int .i64 13, .int .i64 rd, .int .i64 ra, .int .i64 rb, .int .u32 im]], H⟩ := by
  have hi64 := u32_64 hi; have h1u := reg_u32 h1; have h2u := reg_u32 h2; have h3u := reg_u32 h3; have hi2 := hi; simp only [u32B, Bool.and_eq_true, decide_eq_true_eq] at hi2
  refine tw_code f13b_eq ?_
  refine tw_seq (tw_aw progOk10 (by kernel_rfl) ?_)
  refine aw_code f13ba_eq ?_
  refine aw_reg ?_
  obtain ⟨H1_, hH1_⟩ : ∃ x : Heap, x = H.push ⟨[Value.int .i64 13, .int .i64 rd, .int .i64 ra, .int .i64 rb, .int .u32 im], 24, false⟩ := ⟨_, rfl⟩
  have nH1_ : H1_.n = H.n + 1 := by rw [hH1_]; rfl
  refine aops_val 1 (.pointer (some ⟨H.n, 0, none⟩)) H1_ (by kernel_rfl) (by kernel_rfl) (by kernel_rfl) ((by kernel_rfl : _ = some (Res.val (.pointer (some ⟨H.n, 0, none⟩)), H.push ⟨[Value.int .i64 13, .int .i64 rd, .int .i64 ra, .int .i64 rb, .int .u32 im], 24, false⟩)).trans (by rw [← hH1_])) ?_
  refine aops_go 1 60 (by kernel_rfl) ?_
  refine aops_end (by kernel_rfl) (then_normal ?_)
  refine tw_code f13bc_eq ?_
  refine tw_seq (tw_aw progOk10 (by kernel_rfl) ?_)
  refine aw_code f13bca_eq ?_
  refine aw_then ?_
  refine aw_code f13bcaa_eq ?_
  refine aw_reg ?_
  have gH1_H_n : H1_.get (H.n) = some ⟨[Value.int .i64 13, .int .i64 rd, .int .i64 ra, .int .i64 rb, .int .u32 im], 24, false⟩ := by rw [hH1_]; exact (Heap.get_push _ _ _).trans (if_pos rfl)
  refine aops_val 5 (.agg #[.int .i64 13, .int .i64 rd, .int .i64 ra, .int .i64 rb, .int .u32 im]) H1_ (by kernel_rfl) (by kernel_rfl) (by kernel_rfl) ((by kernel_rfl : _ = val (aload T10 24 (.pointer (some ⟨H.n, 0, none⟩)) H1_) H1_).trans (val_of ((aload_at gH1_H_n).trans (by kernel_rfl)))) ?_
  refine aops_ask 6 (.bool true) 19 #[.agg #[.int .i64 13, .int .i64 rd, .int .i64 ra, .int .i64 rb, .int .u32 im]] (by kernel_rfl) (by kernel_rfl) (by kernel_rfl) (by kernel_rfl) (show some (Value.bool (rightV 13 rd ra rb im)) = _ by rw [hr]) ?_
  refine aops_go 1 60 (by kernel_rfl) ?_
  refine aops_end (by kernel_rfl) (then_normal ?_)
  refine aw_code f13bcac_eq ?_
  refine aw_cond (t := false) (by kernel_rfl) ?_
  refine aw_skip (then_normal ?_)
  refine tw_code f13bcc_eq ?_
  refine tw_seq (tw_aw progOk10 (by kernel_rfl) ?_)
  refine aw_code f13bcca_eq ?_
  refine aw_reg ?_
  obtain ⟨H2_, hH2_⟩ : ∃ x : Heap, x = H1_.push ⟨[Value.string ⟨⟨[110, 111, 112]⟩⟩, .string ⟨⟨[108, 105]⟩⟩, .string ⟨⟨[109, 111, 118]⟩⟩, .string ⟨⟨[97, 100, 100]⟩⟩, .string ⟨⟨[115, 117, 98]⟩⟩, .string ⟨⟨[97, 110, 100]⟩⟩, .string ⟨⟨[111, 114]⟩⟩, .string ⟨⟨[120, 111, 114]⟩⟩, .string ⟨⟨[115, 104, 108]⟩⟩, .string ⟨⟨[115, 104, 114]⟩⟩, .string ⟨⟨[109, 117, 108]⟩⟩, .string ⟨⟨[100, 105, 118]⟩⟩, .string ⟨⟨[108, 116, 117]⟩⟩, .string ⟨⟨[101, 113]⟩⟩, .string ⟨⟨[108, 100]⟩⟩, .string ⟨⟨[115, 116]⟩⟩, .string ⟨⟨[98, 101, 113, 122]⟩⟩, .string ⟨⟨[98, 110, 101, 122]⟩⟩, .string ⟨⟨[106, 109, 112]⟩⟩, .string ⟨⟨[101, 120, 105, 116]⟩⟩], 9, false⟩ := ⟨_, rfl⟩
  have nH2_ : H2_.n = H1_.n + 1 := by rw [hH2_]; rfl
  refine aops_val 8 (.slice (some ⟨H1_.n, 0, none⟩) 20 20) H2_ (by kernel_rfl) (by kernel_rfl) (by kernel_rfl) ((by kernel_rfl : _ = some (Res.val (.slice (some ⟨H1_.n, 0, none⟩) 20 20), H1_.push ⟨[Value.string ⟨⟨[110, 111, 112]⟩⟩, .string ⟨⟨[108, 105]⟩⟩, .string ⟨⟨[109, 111, 118]⟩⟩, .string ⟨⟨[97, 100, 100]⟩⟩, .string ⟨⟨[115, 117, 98]⟩⟩, .string ⟨⟨[97, 110, 100]⟩⟩, .string ⟨⟨[111, 114]⟩⟩, .string ⟨⟨[120, 111, 114]⟩⟩, .string ⟨⟨[115, 104, 108]⟩⟩, .string ⟨⟨[115, 104, 114]⟩⟩, .string ⟨⟨[109, 117, 108]⟩⟩, .string ⟨⟨[100, 105, 118]⟩⟩, .string ⟨⟨[108, 116, 117]⟩⟩, .string ⟨⟨[101, 113]⟩⟩, .string ⟨⟨[108, 100]⟩⟩, .string ⟨⟨[115, 116]⟩⟩, .string ⟨⟨[98, 101, 113, 122]⟩⟩, .string ⟨⟨[98, 110, 101, 122]⟩⟩, .string ⟨⟨[106, 109, 112]⟩⟩, .string ⟨⟨[101, 120, 105, 116]⟩⟩], 9, false⟩)).trans (by rw [← hH2_])) ?_
  refine aops_go 1 60 (by kernel_rfl) ?_
  refine aops_end (by kernel_rfl) (then_normal ?_)
  refine tw_code f13bccc_eq ?_
  refine tw_seq (tw_aw progOk10 (by kernel_rfl) ?_)
  refine aw_code f13bccca_eq ?_
  refine aw_drawU (H2_.n) ?_
  refine aopsU_go 2 (by kernel_rfl) ?_
  have gH2_H_n : H2_.get (H.n) = some ⟨[Value.int .i64 13, .int .i64 rd, .int .i64 ra, .int .i64 rb, .int .u32 im], 24, false⟩ := by rw [hH2_, Heap.get_push, if_neg (by omega)]; exact gH1_H_n
  refine aopsU_look 11 (.int .i64 13) (.pointer (some ⟨H.n, 0, none⟩)) (.tmp 10) H2_ (by kernel_rfl) (by kernel_rfl) (by kernel_rfl) (by kernel_rfl) (by kernel_rfl) (by kernel_rfl) ((by kernel_rfl : _ = aload T10 3 (.pointer (some ⟨H.n, 0, none⟩)) H2_).trans ((aload_at gH2_H_n).trans (by kernel_rfl))) (veq_int _ _) (lowB_ptr (by omega)) ((by kernel_rfl : _ = val (aload T10 3 (.pointer (some ⟨H.n, 0, none⟩)) H2_) H2_).trans (val_to ((aload_at gH2_H_n).trans (by kernel_rfl)) (by kernel_rfl))) ?_
  refine aopsU_go 1 (by kernel_rfl) ?_
  have gH2_H1__n : H2_.get (H1_.n) = some ⟨[Value.string ⟨⟨[110, 111, 112]⟩⟩, .string ⟨⟨[108, 105]⟩⟩, .string ⟨⟨[109, 111, 118]⟩⟩, .string ⟨⟨[97, 100, 100]⟩⟩, .string ⟨⟨[115, 117, 98]⟩⟩, .string ⟨⟨[97, 110, 100]⟩⟩, .string ⟨⟨[111, 114]⟩⟩, .string ⟨⟨[120, 111, 114]⟩⟩, .string ⟨⟨[115, 104, 108]⟩⟩, .string ⟨⟨[115, 104, 114]⟩⟩, .string ⟨⟨[109, 117, 108]⟩⟩, .string ⟨⟨[100, 105, 118]⟩⟩, .string ⟨⟨[108, 116, 117]⟩⟩, .string ⟨⟨[101, 113]⟩⟩, .string ⟨⟨[108, 100]⟩⟩, .string ⟨⟨[115, 116]⟩⟩, .string ⟨⟨[98, 101, 113, 122]⟩⟩, .string ⟨⟨[98, 110, 101, 122]⟩⟩, .string ⟨⟨[106, 109, 112]⟩⟩, .string ⟨⟨[101, 120, 105, 116]⟩⟩], 9, false⟩ := by rw [hH2_]; exact (Heap.get_push _ _ _).trans (if_pos rfl)
  refine aopsU_look 13 (.string ⟨⟨[101, 113]⟩⟩) (.pointer (some ⟨H1_.n, 13, none⟩)) (.tmp 12) H2_ (by kernel_rfl) (by kernel_rfl) (by kernel_rfl) (by kernel_rfl) (by kernel_rfl) (by kernel_rfl) ((by kernel_rfl : _ = aload T10 9 (.pointer (some ⟨H1_.n, 13, none⟩)) H2_).trans ((aload_at gH2_H1__n).trans (by kernel_rfl))) (by simp [veq, veqs, veq0]) (lowB_ptr (by omega)) ((by kernel_rfl : _ = val (aload T10 9 (.pointer (some ⟨H1_.n, 13, none⟩)) H2_) H2_).trans (val_to ((aload_at gH2_H1__n).trans (by kernel_rfl)) (by kernel_rfl))) ?_
  refine aopsU_go 1 (by kernel_rfl) ?_
  refine aopsU_look 15 (.int .i64 rd) (.pointer (some ⟨H.n, 1, none⟩)) (.tmp 14) H2_ (by kernel_rfl) (by kernel_rfl) (by kernel_rfl) (by kernel_rfl) (by kernel_rfl) (by kernel_rfl) ((by kernel_rfl : _ = aload T10 3 (.pointer (some ⟨H.n, 1, none⟩)) H2_).trans ((aload_at gH2_H_n).trans (by kernel_rfl))) (veq_int _ _) (lowB_ptr (by omega)) ((by kernel_rfl : _ = val (aload T10 3 (.pointer (some ⟨H.n, 1, none⟩)) H2_) H2_).trans (val_to ((aload_at gH2_H_n).trans (by kernel_rfl)) (by kernel_rfl))) ?_
  refine aopsU_ask 16 (.string (dec rd)) 23 #[.int .i64 rd] (by kernel_rfl) (by kernel_rfl) (by kernel_rfl) (by kernel_rfl) (orc23 rd h1) ?_
  refine aopsU_go 1 (by kernel_rfl) ?_
  refine aopsU_look 18 (.int .i64 ra) (.pointer (some ⟨H.n, 2, none⟩)) (.tmp 17) H2_ (by kernel_rfl) (by kernel_rfl) (by kernel_rfl) (by kernel_rfl) (by kernel_rfl) (by kernel_rfl) ((by kernel_rfl : _ = aload T10 3 (.pointer (some ⟨H.n, 2, none⟩)) H2_).trans ((aload_at gH2_H_n).trans (by kernel_rfl))) (veq_int _ _) (lowB_ptr (by omega)) ((by kernel_rfl : _ = val (aload T10 3 (.pointer (some ⟨H.n, 2, none⟩)) H2_) H2_).trans (val_to ((aload_at gH2_H_n).trans (by kernel_rfl)) (by kernel_rfl))) ?_
  refine aopsU_ask 19 (.string (dec ra)) 23 #[.int .i64 ra] (by kernel_rfl) (by kernel_rfl) (by kernel_rfl) (by kernel_rfl) (orc23 ra h2) ?_
  refine aopsU_go 1 (by kernel_rfl) ?_
  refine aopsU_look 21 (.int .i64 rb) (.pointer (some ⟨H.n, 3, none⟩)) (.tmp 20) H2_ (by kernel_rfl) (by kernel_rfl) (by kernel_rfl) (by kernel_rfl) (by kernel_rfl) (by kernel_rfl) ((by kernel_rfl : _ = aload T10 3 (.pointer (some ⟨H.n, 3, none⟩)) H2_).trans ((aload_at gH2_H_n).trans (by kernel_rfl))) (veq_int _ _) (lowB_ptr (by omega)) ((by kernel_rfl : _ = val (aload T10 3 (.pointer (some ⟨H.n, 3, none⟩)) H2_) H2_).trans (val_to ((aload_at gH2_H_n).trans (by kernel_rfl)) (by kernel_rfl))) ?_
  refine aopsU_ask 22 (.string (dec rb)) 23 #[.int .i64 rb] (by kernel_rfl) (by kernel_rfl) (by kernel_rfl) (by kernel_rfl) (orc23 rb h3) ?_
  refine aopsU_go 1 (by kernel_rfl) ?_
  refine aopsU_look 24 (.int .u32 im) (.pointer (some ⟨H.n, 4, none⟩)) (.tmp 23) H2_ (by kernel_rfl) (by kernel_rfl) (by kernel_rfl) (by kernel_rfl) (by kernel_rfl) (by kernel_rfl) ((by kernel_rfl : _ = aload T10 22 (.pointer (some ⟨H.n, 4, none⟩)) H2_).trans ((aload_at gH2_H_n).trans (by kernel_rfl))) (veq_int _ _) (lowB_ptr (by omega)) ((by kernel_rfl : _ = val (aload T10 22 (.pointer (some ⟨H.n, 4, none⟩)) H2_) H2_).trans (val_to ((aload_at gH2_H_n).trans (by kernel_rfl)) (by kernel_rfl))) ?_
  refine aopsU_pt 25 (.int .u64 (IntKind.u64.wrap im)) (by kernel_rfl) (by kernel_rfl) (by kernel_rfl) (by kernel_rfl) (by kernel_rfl) ?_
  refine aopsU_see 25 (.int .u64 im) (see_int (x := IntKind.u64.wrap im) (by kernel_rfl) (wu64 rfl (by omega) (by omega))) ?_
  refine aopsU_ask 26 (.string (dec im)) 24 #[.int .u64 im, .int .i64 10] (by kernel_rfl) (by kernel_rfl) (by kernel_rfl) (by kernel_rfl) (orc24 im hi64) ?_
  obtain ⟨H3_, hH3_⟩ : ∃ x : Heap, x = H2_.push ⟨[Value.string ⟨⟨[101, 113]⟩⟩, .string (dec rd), .string (dec ra), .string (dec rb), .string (dec im)], 9, false⟩ := ⟨_, rfl⟩
  have nH3_ : H3_.n = H2_.n + 1 := by rw [hH3_]; rfl
  refine aopsU_mk 27 (.slice (some ⟨H2_.n, 0, none⟩) 5 5) H2_ H3_ (by kernel_rfl) (by kernel_rfl) (by kernel_rfl) (by kernel_rfl) ((by kernel_rfl : _ = some (Res.val (.slice (some ⟨H2_.n, 0, none⟩) 5 5), H2_.push ⟨[Value.string ⟨⟨[101, 113]⟩⟩, .string (dec rd), .string (dec ra), .string (dec rb), .string (dec im)], 9, false⟩)).trans (by rw [← hH3_])) (by kernel_rfl) (hH3_ ▸ Up.push (by omega) (Up.refl _) _) ?_
  refine aopsU_go 1 (by kernel_rfl) ?_
  refine aopsU_end (by kernel_rfl) (then_normal ?_)
  have gH3_H2__n : H3_.get (H2_.n) = some ⟨[Value.string ⟨⟨[101, 113]⟩⟩, .string (dec rd), .string (dec ra), .string (dec rb), .string (dec im)], 9, false⟩ := by rw [hH3_]; exact (Heap.get_push _ _ _).trans (if_pos rfl)
  refine tw_code f13bcccc_eq ?_
  refine tw_code (congrArg (Code.seq · .ret) f13bcccca_eq) ?_
  refine tw_seq (tw_region (T := T10) progOk10 (joinF_ok (B := H2_.n) (c := 5) (xs := [nameV 13, dec rd, dec ra, dec rb, dec im]) (sep := ⟨⟨[32]⟩⟩) (e := 9) (by simp) (by simp) (by simp [unk]) (by rw [joinS_eq]; have := textR_size (op := 13) h1u h2u h3u hi; omega)) joinF_grows (by kernel_rfl) (join_step (B := H2_.n) (H := H3_) (by kernel_rfl) (s4 := (by kernel_rfl)) (x := joinS [nameV 13, dec rd, dec ra, dec rb, dec im] ⟨⟨[32]⟩⟩) (hx := joinF_eq (xs := [nameV 13, dec rd, dec ra, dec rb, dec im]) (gH3_H2__n.trans (by kernel_rfl)))) ?_)
  refine then_normal ?_
  exact tw_ret ⟨.string (joinS [nameV 13, dec rd, dec ra, dec rb, dec im] ⟨⟨[32]⟩⟩), by kernel_rfl, by rw [joinS_eq]; unfold textV; rw [hr]; rfl⟩
theorem f13_14 [Bs] [Tb] {rd ra rb im : Int} {H : Heap} (hr : rightV 14 rd ra rb im = true) (h1 : regV rd = true) (h2 : regV ra = true) (h3 : regV rb = true) (hi : u32B im = true) (w0 : World) : Tw Tryd.prog 30 w0 f13b (RetIs T10 Tryd.f13.results fun r _ => r = .string (textV 14 rd ra rb im)) ⟨initTm 0 #[.agg #[.int .i64 14, .int .i64 rd, .int .i64 ra, .int .i64 rb, .int .u32 im]], H⟩ := by
  have hi64 := u32_64 hi; have h1u := reg_u32 h1; have h2u := reg_u32 h2; have h3u := reg_u32 h3; have hi2 := hi; simp only [u32B, Bool.and_eq_true, decide_eq_true_eq] at hi2
  refine tw_code f13b_eq ?_
  refine tw_seq (tw_aw progOk10 (by kernel_rfl) ?_)
  refine aw_code f13ba_eq ?_
  refine aw_reg ?_
  obtain ⟨H1_, hH1_⟩ : ∃ x : Heap, x = H.push ⟨[Value.int .i64 14, .int .i64 rd, .int .i64 ra, .int .i64 rb, .int .u32 im], 24, false⟩ := ⟨_, rfl⟩
  have nH1_ : H1_.n = H.n + 1 := by rw [hH1_]; rfl
  refine aops_val 1 (.pointer (some ⟨H.n, 0, none⟩)) H1_ (by kernel_rfl) (by kernel_rfl) (by kernel_rfl) ((by kernel_rfl : _ = some (Res.val (.pointer (some ⟨H.n, 0, none⟩)), H.push ⟨[Value.int .i64 14, .int .i64 rd, .int .i64 ra, .int .i64 rb, .int .u32 im], 24, false⟩)).trans (by rw [← hH1_])) ?_
  refine aops_go 1 60 (by kernel_rfl) ?_
  refine aops_end (by kernel_rfl) (then_normal ?_)
  refine tw_code f13bc_eq ?_
  refine tw_seq (tw_aw progOk10 (by kernel_rfl) ?_)
  refine aw_code f13bca_eq ?_
  refine aw_then ?_
  refine aw_code f13bcaa_eq ?_
  refine aw_reg ?_
  have gH1_H_n : H1_.get (H.n) = some ⟨[Value.int .i64 14, .int .i64 rd, .int .i64 ra, .int .i64 rb, .int .u32 im], 24, false⟩ := by rw [hH1_]; exact (Heap.get_push _ _ _).trans (if_pos rfl)
  refine aops_val 5 (.agg #[.int .i64 14, .int .i64 rd, .int .i64 ra, .int .i64 rb, .int .u32 im]) H1_ (by kernel_rfl) (by kernel_rfl) (by kernel_rfl) ((by kernel_rfl : _ = val (aload T10 24 (.pointer (some ⟨H.n, 0, none⟩)) H1_) H1_).trans (val_of ((aload_at gH1_H_n).trans (by kernel_rfl)))) ?_
  refine aops_ask 6 (.bool true) 19 #[.agg #[.int .i64 14, .int .i64 rd, .int .i64 ra, .int .i64 rb, .int .u32 im]] (by kernel_rfl) (by kernel_rfl) (by kernel_rfl) (by kernel_rfl) (show some (Value.bool (rightV 14 rd ra rb im)) = _ by rw [hr]) ?_
  refine aops_go 1 60 (by kernel_rfl) ?_
  refine aops_end (by kernel_rfl) (then_normal ?_)
  refine aw_code f13bcac_eq ?_
  refine aw_cond (t := false) (by kernel_rfl) ?_
  refine aw_skip (then_normal ?_)
  refine tw_code f13bcc_eq ?_
  refine tw_seq (tw_aw progOk10 (by kernel_rfl) ?_)
  refine aw_code f13bcca_eq ?_
  refine aw_reg ?_
  obtain ⟨H2_, hH2_⟩ : ∃ x : Heap, x = H1_.push ⟨[Value.string ⟨⟨[110, 111, 112]⟩⟩, .string ⟨⟨[108, 105]⟩⟩, .string ⟨⟨[109, 111, 118]⟩⟩, .string ⟨⟨[97, 100, 100]⟩⟩, .string ⟨⟨[115, 117, 98]⟩⟩, .string ⟨⟨[97, 110, 100]⟩⟩, .string ⟨⟨[111, 114]⟩⟩, .string ⟨⟨[120, 111, 114]⟩⟩, .string ⟨⟨[115, 104, 108]⟩⟩, .string ⟨⟨[115, 104, 114]⟩⟩, .string ⟨⟨[109, 117, 108]⟩⟩, .string ⟨⟨[100, 105, 118]⟩⟩, .string ⟨⟨[108, 116, 117]⟩⟩, .string ⟨⟨[101, 113]⟩⟩, .string ⟨⟨[108, 100]⟩⟩, .string ⟨⟨[115, 116]⟩⟩, .string ⟨⟨[98, 101, 113, 122]⟩⟩, .string ⟨⟨[98, 110, 101, 122]⟩⟩, .string ⟨⟨[106, 109, 112]⟩⟩, .string ⟨⟨[101, 120, 105, 116]⟩⟩], 9, false⟩ := ⟨_, rfl⟩
  have nH2_ : H2_.n = H1_.n + 1 := by rw [hH2_]; rfl
  refine aops_val 8 (.slice (some ⟨H1_.n, 0, none⟩) 20 20) H2_ (by kernel_rfl) (by kernel_rfl) (by kernel_rfl) ((by kernel_rfl : _ = some (Res.val (.slice (some ⟨H1_.n, 0, none⟩) 20 20), H1_.push ⟨[Value.string ⟨⟨[110, 111, 112]⟩⟩, .string ⟨⟨[108, 105]⟩⟩, .string ⟨⟨[109, 111, 118]⟩⟩, .string ⟨⟨[97, 100, 100]⟩⟩, .string ⟨⟨[115, 117, 98]⟩⟩, .string ⟨⟨[97, 110, 100]⟩⟩, .string ⟨⟨[111, 114]⟩⟩, .string ⟨⟨[120, 111, 114]⟩⟩, .string ⟨⟨[115, 104, 108]⟩⟩, .string ⟨⟨[115, 104, 114]⟩⟩, .string ⟨⟨[109, 117, 108]⟩⟩, .string ⟨⟨[100, 105, 118]⟩⟩, .string ⟨⟨[108, 116, 117]⟩⟩, .string ⟨⟨[101, 113]⟩⟩, .string ⟨⟨[108, 100]⟩⟩, .string ⟨⟨[115, 116]⟩⟩, .string ⟨⟨[98, 101, 113, 122]⟩⟩, .string ⟨⟨[98, 110, 101, 122]⟩⟩, .string ⟨⟨[106, 109, 112]⟩⟩, .string ⟨⟨[101, 120, 105, 116]⟩⟩], 9, false⟩)).trans (by rw [← hH2_])) ?_
  refine aops_go 1 60 (by kernel_rfl) ?_
  refine aops_end (by kernel_rfl) (then_normal ?_)
  refine tw_code f13bccc_eq ?_
  refine tw_seq (tw_aw progOk10 (by kernel_rfl) ?_)
  refine aw_code f13bccca_eq ?_
  refine aw_drawU (H2_.n) ?_
  refine aopsU_go 2 (by kernel_rfl) ?_
  have gH2_H_n : H2_.get (H.n) = some ⟨[Value.int .i64 14, .int .i64 rd, .int .i64 ra, .int .i64 rb, .int .u32 im], 24, false⟩ := by rw [hH2_, Heap.get_push, if_neg (by omega)]; exact gH1_H_n
  refine aopsU_look 11 (.int .i64 14) (.pointer (some ⟨H.n, 0, none⟩)) (.tmp 10) H2_ (by kernel_rfl) (by kernel_rfl) (by kernel_rfl) (by kernel_rfl) (by kernel_rfl) (by kernel_rfl) ((by kernel_rfl : _ = aload T10 3 (.pointer (some ⟨H.n, 0, none⟩)) H2_).trans ((aload_at gH2_H_n).trans (by kernel_rfl))) (veq_int _ _) (lowB_ptr (by omega)) ((by kernel_rfl : _ = val (aload T10 3 (.pointer (some ⟨H.n, 0, none⟩)) H2_) H2_).trans (val_to ((aload_at gH2_H_n).trans (by kernel_rfl)) (by kernel_rfl))) ?_
  refine aopsU_go 1 (by kernel_rfl) ?_
  have gH2_H1__n : H2_.get (H1_.n) = some ⟨[Value.string ⟨⟨[110, 111, 112]⟩⟩, .string ⟨⟨[108, 105]⟩⟩, .string ⟨⟨[109, 111, 118]⟩⟩, .string ⟨⟨[97, 100, 100]⟩⟩, .string ⟨⟨[115, 117, 98]⟩⟩, .string ⟨⟨[97, 110, 100]⟩⟩, .string ⟨⟨[111, 114]⟩⟩, .string ⟨⟨[120, 111, 114]⟩⟩, .string ⟨⟨[115, 104, 108]⟩⟩, .string ⟨⟨[115, 104, 114]⟩⟩, .string ⟨⟨[109, 117, 108]⟩⟩, .string ⟨⟨[100, 105, 118]⟩⟩, .string ⟨⟨[108, 116, 117]⟩⟩, .string ⟨⟨[101, 113]⟩⟩, .string ⟨⟨[108, 100]⟩⟩, .string ⟨⟨[115, 116]⟩⟩, .string ⟨⟨[98, 101, 113, 122]⟩⟩, .string ⟨⟨[98, 110, 101, 122]⟩⟩, .string ⟨⟨[106, 109, 112]⟩⟩, .string ⟨⟨[101, 120, 105, 116]⟩⟩], 9, false⟩ := by rw [hH2_]; exact (Heap.get_push _ _ _).trans (if_pos rfl)
  refine aopsU_look 13 (.string ⟨⟨[108, 100]⟩⟩) (.pointer (some ⟨H1_.n, 14, none⟩)) (.tmp 12) H2_ (by kernel_rfl) (by kernel_rfl) (by kernel_rfl) (by kernel_rfl) (by kernel_rfl) (by kernel_rfl) ((by kernel_rfl : _ = aload T10 9 (.pointer (some ⟨H1_.n, 14, none⟩)) H2_).trans ((aload_at gH2_H1__n).trans (by kernel_rfl))) (by simp [veq, veqs, veq0]) (lowB_ptr (by omega)) ((by kernel_rfl : _ = val (aload T10 9 (.pointer (some ⟨H1_.n, 14, none⟩)) H2_) H2_).trans (val_to ((aload_at gH2_H1__n).trans (by kernel_rfl)) (by kernel_rfl))) ?_
  refine aopsU_go 1 (by kernel_rfl) ?_
  refine aopsU_look 15 (.int .i64 rd) (.pointer (some ⟨H.n, 1, none⟩)) (.tmp 14) H2_ (by kernel_rfl) (by kernel_rfl) (by kernel_rfl) (by kernel_rfl) (by kernel_rfl) (by kernel_rfl) ((by kernel_rfl : _ = aload T10 3 (.pointer (some ⟨H.n, 1, none⟩)) H2_).trans ((aload_at gH2_H_n).trans (by kernel_rfl))) (veq_int _ _) (lowB_ptr (by omega)) ((by kernel_rfl : _ = val (aload T10 3 (.pointer (some ⟨H.n, 1, none⟩)) H2_) H2_).trans (val_to ((aload_at gH2_H_n).trans (by kernel_rfl)) (by kernel_rfl))) ?_
  refine aopsU_ask 16 (.string (dec rd)) 23 #[.int .i64 rd] (by kernel_rfl) (by kernel_rfl) (by kernel_rfl) (by kernel_rfl) (orc23 rd h1) ?_
  refine aopsU_go 1 (by kernel_rfl) ?_
  refine aopsU_look 18 (.int .i64 ra) (.pointer (some ⟨H.n, 2, none⟩)) (.tmp 17) H2_ (by kernel_rfl) (by kernel_rfl) (by kernel_rfl) (by kernel_rfl) (by kernel_rfl) (by kernel_rfl) ((by kernel_rfl : _ = aload T10 3 (.pointer (some ⟨H.n, 2, none⟩)) H2_).trans ((aload_at gH2_H_n).trans (by kernel_rfl))) (veq_int _ _) (lowB_ptr (by omega)) ((by kernel_rfl : _ = val (aload T10 3 (.pointer (some ⟨H.n, 2, none⟩)) H2_) H2_).trans (val_to ((aload_at gH2_H_n).trans (by kernel_rfl)) (by kernel_rfl))) ?_
  refine aopsU_ask 19 (.string (dec ra)) 23 #[.int .i64 ra] (by kernel_rfl) (by kernel_rfl) (by kernel_rfl) (by kernel_rfl) (orc23 ra h2) ?_
  refine aopsU_go 1 (by kernel_rfl) ?_
  refine aopsU_look 21 (.int .i64 rb) (.pointer (some ⟨H.n, 3, none⟩)) (.tmp 20) H2_ (by kernel_rfl) (by kernel_rfl) (by kernel_rfl) (by kernel_rfl) (by kernel_rfl) (by kernel_rfl) ((by kernel_rfl : _ = aload T10 3 (.pointer (some ⟨H.n, 3, none⟩)) H2_).trans ((aload_at gH2_H_n).trans (by kernel_rfl))) (veq_int _ _) (lowB_ptr (by omega)) ((by kernel_rfl : _ = val (aload T10 3 (.pointer (some ⟨H.n, 3, none⟩)) H2_) H2_).trans (val_to ((aload_at gH2_H_n).trans (by kernel_rfl)) (by kernel_rfl))) ?_
  refine aopsU_ask 22 (.string (dec rb)) 23 #[.int .i64 rb] (by kernel_rfl) (by kernel_rfl) (by kernel_rfl) (by kernel_rfl) (orc23 rb h3) ?_
  refine aopsU_go 1 (by kernel_rfl) ?_
  refine aopsU_look 24 (.int .u32 im) (.pointer (some ⟨H.n, 4, none⟩)) (.tmp 23) H2_ (by kernel_rfl) (by kernel_rfl) (by kernel_rfl) (by kernel_rfl) (by kernel_rfl) (by kernel_rfl) ((by kernel_rfl : _ = aload T10 22 (.pointer (some ⟨H.n, 4, none⟩)) H2_).trans ((aload_at gH2_H_n).trans (by kernel_rfl))) (veq_int _ _) (lowB_ptr (by omega)) ((by kernel_rfl : _ = val (aload T10 22 (.pointer (some ⟨H.n, 4, none⟩)) H2_) H2_).trans (val_to ((aload_at gH2_H_n).trans (by kernel_rfl)) (by kernel_rfl))) ?_
  refine aopsU_pt 25 (.int .u64 (IntKind.u64.wrap im)) (by kernel_rfl) (by kernel_rfl) (by kernel_rfl) (by kernel_rfl) (by kernel_rfl) ?_
  refine aopsU_see 25 (.int .u64 im) (see_int (x := IntKind.u64.wrap im) (by kernel_rfl) (wu64 rfl (by omega) (by omega))) ?_
  refine aopsU_ask 26 (.string (dec im)) 24 #[.int .u64 im, .int .i64 10] (by kernel_rfl) (by kernel_rfl) (by kernel_rfl) (by kernel_rfl) (orc24 im hi64) ?_
  obtain ⟨H3_, hH3_⟩ : ∃ x : Heap, x = H2_.push ⟨[Value.string ⟨⟨[108, 100]⟩⟩, .string (dec rd), .string (dec ra), .string (dec rb), .string (dec im)], 9, false⟩ := ⟨_, rfl⟩
  have nH3_ : H3_.n = H2_.n + 1 := by rw [hH3_]; rfl
  refine aopsU_mk 27 (.slice (some ⟨H2_.n, 0, none⟩) 5 5) H2_ H3_ (by kernel_rfl) (by kernel_rfl) (by kernel_rfl) (by kernel_rfl) ((by kernel_rfl : _ = some (Res.val (.slice (some ⟨H2_.n, 0, none⟩) 5 5), H2_.push ⟨[Value.string ⟨⟨[108, 100]⟩⟩, .string (dec rd), .string (dec ra), .string (dec rb), .string (dec im)], 9, false⟩)).trans (by rw [← hH3_])) (by kernel_rfl) (hH3_ ▸ Up.push (by omega) (Up.refl _) _) ?_
  refine aopsU_go 1 (by kernel_rfl) ?_
  refine aopsU_end (by kernel_rfl) (then_normal ?_)
  have gH3_H2__n : H3_.get (H2_.n) = some ⟨[Value.string ⟨⟨[108, 100]⟩⟩, .string (dec rd), .string (dec ra), .string (dec rb), .string (dec im)], 9, false⟩ := by rw [hH3_]; exact (Heap.get_push _ _ _).trans (if_pos rfl)
  refine tw_code f13bcccc_eq ?_
  refine tw_code (congrArg (Code.seq · .ret) f13bcccca_eq) ?_
  refine tw_seq (tw_region (T := T10) progOk10 (joinF_ok (B := H2_.n) (c := 5) (xs := [nameV 14, dec rd, dec ra, dec rb, dec im]) (sep := ⟨⟨[32]⟩⟩) (e := 9) (by simp) (by simp) (by simp [unk]) (by rw [joinS_eq]; have := textR_size (op := 14) h1u h2u h3u hi; omega)) joinF_grows (by kernel_rfl) (join_step (B := H2_.n) (H := H3_) (by kernel_rfl) (s4 := (by kernel_rfl)) (x := joinS [nameV 14, dec rd, dec ra, dec rb, dec im] ⟨⟨[32]⟩⟩) (hx := joinF_eq (xs := [nameV 14, dec rd, dec ra, dec rb, dec im]) (gH3_H2__n.trans (by kernel_rfl)))) ?_)
  refine then_normal ?_
  exact tw_ret ⟨.string (joinS [nameV 14, dec rd, dec ra, dec rb, dec im] ⟨⟨[32]⟩⟩), by kernel_rfl, by rw [joinS_eq]; unfold textV; rw [hr]; rfl⟩
theorem f13_15 [Bs] [Tb] {rd ra rb im : Int} {H : Heap} (hr : rightV 15 rd ra rb im = true) (h1 : regV rd = true) (h2 : regV ra = true) (h3 : regV rb = true) (hi : u32B im = true) (w0 : World) : Tw Tryd.prog 30 w0 f13b (RetIs T10 Tryd.f13.results fun r _ => r = .string (textV 15 rd ra rb im)) ⟨initTm 0 #[.agg #[.int .i64 15, .int .i64 rd, .int .i64 ra, .int .i64 rb, .int .u32 im]], H⟩ := by
  have hi64 := u32_64 hi; have h1u := reg_u32 h1; have h2u := reg_u32 h2; have h3u := reg_u32 h3; have hi2 := hi; simp only [u32B, Bool.and_eq_true, decide_eq_true_eq] at hi2
  refine tw_code f13b_eq ?_
  refine tw_seq (tw_aw progOk10 (by kernel_rfl) ?_)
  refine aw_code f13ba_eq ?_
  refine aw_reg ?_
  obtain ⟨H1_, hH1_⟩ : ∃ x : Heap, x = H.push ⟨[Value.int .i64 15, .int .i64 rd, .int .i64 ra, .int .i64 rb, .int .u32 im], 24, false⟩ := ⟨_, rfl⟩
  have nH1_ : H1_.n = H.n + 1 := by rw [hH1_]; rfl
  refine aops_val 1 (.pointer (some ⟨H.n, 0, none⟩)) H1_ (by kernel_rfl) (by kernel_rfl) (by kernel_rfl) ((by kernel_rfl : _ = some (Res.val (.pointer (some ⟨H.n, 0, none⟩)), H.push ⟨[Value.int .i64 15, .int .i64 rd, .int .i64 ra, .int .i64 rb, .int .u32 im], 24, false⟩)).trans (by rw [← hH1_])) ?_
  refine aops_go 1 60 (by kernel_rfl) ?_
  refine aops_end (by kernel_rfl) (then_normal ?_)
  refine tw_code f13bc_eq ?_
  refine tw_seq (tw_aw progOk10 (by kernel_rfl) ?_)
  refine aw_code f13bca_eq ?_
  refine aw_then ?_
  refine aw_code f13bcaa_eq ?_
  refine aw_reg ?_
  have gH1_H_n : H1_.get (H.n) = some ⟨[Value.int .i64 15, .int .i64 rd, .int .i64 ra, .int .i64 rb, .int .u32 im], 24, false⟩ := by rw [hH1_]; exact (Heap.get_push _ _ _).trans (if_pos rfl)
  refine aops_val 5 (.agg #[.int .i64 15, .int .i64 rd, .int .i64 ra, .int .i64 rb, .int .u32 im]) H1_ (by kernel_rfl) (by kernel_rfl) (by kernel_rfl) ((by kernel_rfl : _ = val (aload T10 24 (.pointer (some ⟨H.n, 0, none⟩)) H1_) H1_).trans (val_of ((aload_at gH1_H_n).trans (by kernel_rfl)))) ?_
  refine aops_ask 6 (.bool true) 19 #[.agg #[.int .i64 15, .int .i64 rd, .int .i64 ra, .int .i64 rb, .int .u32 im]] (by kernel_rfl) (by kernel_rfl) (by kernel_rfl) (by kernel_rfl) (show some (Value.bool (rightV 15 rd ra rb im)) = _ by rw [hr]) ?_
  refine aops_go 1 60 (by kernel_rfl) ?_
  refine aops_end (by kernel_rfl) (then_normal ?_)
  refine aw_code f13bcac_eq ?_
  refine aw_cond (t := false) (by kernel_rfl) ?_
  refine aw_skip (then_normal ?_)
  refine tw_code f13bcc_eq ?_
  refine tw_seq (tw_aw progOk10 (by kernel_rfl) ?_)
  refine aw_code f13bcca_eq ?_
  refine aw_reg ?_
  obtain ⟨H2_, hH2_⟩ : ∃ x : Heap, x = H1_.push ⟨[Value.string ⟨⟨[110, 111, 112]⟩⟩, .string ⟨⟨[108, 105]⟩⟩, .string ⟨⟨[109, 111, 118]⟩⟩, .string ⟨⟨[97, 100, 100]⟩⟩, .string ⟨⟨[115, 117, 98]⟩⟩, .string ⟨⟨[97, 110, 100]⟩⟩, .string ⟨⟨[111, 114]⟩⟩, .string ⟨⟨[120, 111, 114]⟩⟩, .string ⟨⟨[115, 104, 108]⟩⟩, .string ⟨⟨[115, 104, 114]⟩⟩, .string ⟨⟨[109, 117, 108]⟩⟩, .string ⟨⟨[100, 105, 118]⟩⟩, .string ⟨⟨[108, 116, 117]⟩⟩, .string ⟨⟨[101, 113]⟩⟩, .string ⟨⟨[108, 100]⟩⟩, .string ⟨⟨[115, 116]⟩⟩, .string ⟨⟨[98, 101, 113, 122]⟩⟩, .string ⟨⟨[98, 110, 101, 122]⟩⟩, .string ⟨⟨[106, 109, 112]⟩⟩, .string ⟨⟨[101, 120, 105, 116]⟩⟩], 9, false⟩ := ⟨_, rfl⟩
  have nH2_ : H2_.n = H1_.n + 1 := by rw [hH2_]; rfl
  refine aops_val 8 (.slice (some ⟨H1_.n, 0, none⟩) 20 20) H2_ (by kernel_rfl) (by kernel_rfl) (by kernel_rfl) ((by kernel_rfl : _ = some (Res.val (.slice (some ⟨H1_.n, 0, none⟩) 20 20), H1_.push ⟨[Value.string ⟨⟨[110, 111, 112]⟩⟩, .string ⟨⟨[108, 105]⟩⟩, .string ⟨⟨[109, 111, 118]⟩⟩, .string ⟨⟨[97, 100, 100]⟩⟩, .string ⟨⟨[115, 117, 98]⟩⟩, .string ⟨⟨[97, 110, 100]⟩⟩, .string ⟨⟨[111, 114]⟩⟩, .string ⟨⟨[120, 111, 114]⟩⟩, .string ⟨⟨[115, 104, 108]⟩⟩, .string ⟨⟨[115, 104, 114]⟩⟩, .string ⟨⟨[109, 117, 108]⟩⟩, .string ⟨⟨[100, 105, 118]⟩⟩, .string ⟨⟨[108, 116, 117]⟩⟩, .string ⟨⟨[101, 113]⟩⟩, .string ⟨⟨[108, 100]⟩⟩, .string ⟨⟨[115, 116]⟩⟩, .string ⟨⟨[98, 101, 113, 122]⟩⟩, .string ⟨⟨[98, 110, 101, 122]⟩⟩, .string ⟨⟨[106, 109, 112]⟩⟩, .string ⟨⟨[101, 120, 105, 116]⟩⟩], 9, false⟩)).trans (by rw [← hH2_])) ?_
  refine aops_go 1 60 (by kernel_rfl) ?_
  refine aops_end (by kernel_rfl) (then_normal ?_)
  refine tw_code f13bccc_eq ?_
  refine tw_seq (tw_aw progOk10 (by kernel_rfl) ?_)
  refine aw_code f13bccca_eq ?_
  refine aw_drawU (H2_.n) ?_
  refine aopsU_go 2 (by kernel_rfl) ?_
  have gH2_H_n : H2_.get (H.n) = some ⟨[Value.int .i64 15, .int .i64 rd, .int .i64 ra, .int .i64 rb, .int .u32 im], 24, false⟩ := by rw [hH2_, Heap.get_push, if_neg (by omega)]; exact gH1_H_n
  refine aopsU_look 11 (.int .i64 15) (.pointer (some ⟨H.n, 0, none⟩)) (.tmp 10) H2_ (by kernel_rfl) (by kernel_rfl) (by kernel_rfl) (by kernel_rfl) (by kernel_rfl) (by kernel_rfl) ((by kernel_rfl : _ = aload T10 3 (.pointer (some ⟨H.n, 0, none⟩)) H2_).trans ((aload_at gH2_H_n).trans (by kernel_rfl))) (veq_int _ _) (lowB_ptr (by omega)) ((by kernel_rfl : _ = val (aload T10 3 (.pointer (some ⟨H.n, 0, none⟩)) H2_) H2_).trans (val_to ((aload_at gH2_H_n).trans (by kernel_rfl)) (by kernel_rfl))) ?_
  refine aopsU_go 1 (by kernel_rfl) ?_
  have gH2_H1__n : H2_.get (H1_.n) = some ⟨[Value.string ⟨⟨[110, 111, 112]⟩⟩, .string ⟨⟨[108, 105]⟩⟩, .string ⟨⟨[109, 111, 118]⟩⟩, .string ⟨⟨[97, 100, 100]⟩⟩, .string ⟨⟨[115, 117, 98]⟩⟩, .string ⟨⟨[97, 110, 100]⟩⟩, .string ⟨⟨[111, 114]⟩⟩, .string ⟨⟨[120, 111, 114]⟩⟩, .string ⟨⟨[115, 104, 108]⟩⟩, .string ⟨⟨[115, 104, 114]⟩⟩, .string ⟨⟨[109, 117, 108]⟩⟩, .string ⟨⟨[100, 105, 118]⟩⟩, .string ⟨⟨[108, 116, 117]⟩⟩, .string ⟨⟨[101, 113]⟩⟩, .string ⟨⟨[108, 100]⟩⟩, .string ⟨⟨[115, 116]⟩⟩, .string ⟨⟨[98, 101, 113, 122]⟩⟩, .string ⟨⟨[98, 110, 101, 122]⟩⟩, .string ⟨⟨[106, 109, 112]⟩⟩, .string ⟨⟨[101, 120, 105, 116]⟩⟩], 9, false⟩ := by rw [hH2_]; exact (Heap.get_push _ _ _).trans (if_pos rfl)
  refine aopsU_look 13 (.string ⟨⟨[115, 116]⟩⟩) (.pointer (some ⟨H1_.n, 15, none⟩)) (.tmp 12) H2_ (by kernel_rfl) (by kernel_rfl) (by kernel_rfl) (by kernel_rfl) (by kernel_rfl) (by kernel_rfl) ((by kernel_rfl : _ = aload T10 9 (.pointer (some ⟨H1_.n, 15, none⟩)) H2_).trans ((aload_at gH2_H1__n).trans (by kernel_rfl))) (by simp [veq, veqs, veq0]) (lowB_ptr (by omega)) ((by kernel_rfl : _ = val (aload T10 9 (.pointer (some ⟨H1_.n, 15, none⟩)) H2_) H2_).trans (val_to ((aload_at gH2_H1__n).trans (by kernel_rfl)) (by kernel_rfl))) ?_
  refine aopsU_go 1 (by kernel_rfl) ?_
  refine aopsU_look 15 (.int .i64 rd) (.pointer (some ⟨H.n, 1, none⟩)) (.tmp 14) H2_ (by kernel_rfl) (by kernel_rfl) (by kernel_rfl) (by kernel_rfl) (by kernel_rfl) (by kernel_rfl) ((by kernel_rfl : _ = aload T10 3 (.pointer (some ⟨H.n, 1, none⟩)) H2_).trans ((aload_at gH2_H_n).trans (by kernel_rfl))) (veq_int _ _) (lowB_ptr (by omega)) ((by kernel_rfl : _ = val (aload T10 3 (.pointer (some ⟨H.n, 1, none⟩)) H2_) H2_).trans (val_to ((aload_at gH2_H_n).trans (by kernel_rfl)) (by kernel_rfl))) ?_
  refine aopsU_ask 16 (.string (dec rd)) 23 #[.int .i64 rd] (by kernel_rfl) (by kernel_rfl) (by kernel_rfl) (by kernel_rfl) (orc23 rd h1) ?_
  refine aopsU_go 1 (by kernel_rfl) ?_
  refine aopsU_look 18 (.int .i64 ra) (.pointer (some ⟨H.n, 2, none⟩)) (.tmp 17) H2_ (by kernel_rfl) (by kernel_rfl) (by kernel_rfl) (by kernel_rfl) (by kernel_rfl) (by kernel_rfl) ((by kernel_rfl : _ = aload T10 3 (.pointer (some ⟨H.n, 2, none⟩)) H2_).trans ((aload_at gH2_H_n).trans (by kernel_rfl))) (veq_int _ _) (lowB_ptr (by omega)) ((by kernel_rfl : _ = val (aload T10 3 (.pointer (some ⟨H.n, 2, none⟩)) H2_) H2_).trans (val_to ((aload_at gH2_H_n).trans (by kernel_rfl)) (by kernel_rfl))) ?_
  refine aopsU_ask 19 (.string (dec ra)) 23 #[.int .i64 ra] (by kernel_rfl) (by kernel_rfl) (by kernel_rfl) (by kernel_rfl) (orc23 ra h2) ?_
  refine aopsU_go 1 (by kernel_rfl) ?_
  refine aopsU_look 21 (.int .i64 rb) (.pointer (some ⟨H.n, 3, none⟩)) (.tmp 20) H2_ (by kernel_rfl) (by kernel_rfl) (by kernel_rfl) (by kernel_rfl) (by kernel_rfl) (by kernel_rfl) ((by kernel_rfl : _ = aload T10 3 (.pointer (some ⟨H.n, 3, none⟩)) H2_).trans ((aload_at gH2_H_n).trans (by kernel_rfl))) (veq_int _ _) (lowB_ptr (by omega)) ((by kernel_rfl : _ = val (aload T10 3 (.pointer (some ⟨H.n, 3, none⟩)) H2_) H2_).trans (val_to ((aload_at gH2_H_n).trans (by kernel_rfl)) (by kernel_rfl))) ?_
  refine aopsU_ask 22 (.string (dec rb)) 23 #[.int .i64 rb] (by kernel_rfl) (by kernel_rfl) (by kernel_rfl) (by kernel_rfl) (orc23 rb h3) ?_
  refine aopsU_go 1 (by kernel_rfl) ?_
  refine aopsU_look 24 (.int .u32 im) (.pointer (some ⟨H.n, 4, none⟩)) (.tmp 23) H2_ (by kernel_rfl) (by kernel_rfl) (by kernel_rfl) (by kernel_rfl) (by kernel_rfl) (by kernel_rfl) ((by kernel_rfl : _ = aload T10 22 (.pointer (some ⟨H.n, 4, none⟩)) H2_).trans ((aload_at gH2_H_n).trans (by kernel_rfl))) (veq_int _ _) (lowB_ptr (by omega)) ((by kernel_rfl : _ = val (aload T10 22 (.pointer (some ⟨H.n, 4, none⟩)) H2_) H2_).trans (val_to ((aload_at gH2_H_n).trans (by kernel_rfl)) (by kernel_rfl))) ?_
  refine aopsU_pt 25 (.int .u64 (IntKind.u64.wrap im)) (by kernel_rfl) (by kernel_rfl) (by kernel_rfl) (by kernel_rfl) (by kernel_rfl) ?_
  refine aopsU_see 25 (.int .u64 im) (see_int (x := IntKind.u64.wrap im) (by kernel_rfl) (wu64 rfl (by omega) (by omega))) ?_
  refine aopsU_ask 26 (.string (dec im)) 24 #[.int .u64 im, .int .i64 10] (by kernel_rfl) (by kernel_rfl) (by kernel_rfl) (by kernel_rfl) (orc24 im hi64) ?_
  obtain ⟨H3_, hH3_⟩ : ∃ x : Heap, x = H2_.push ⟨[Value.string ⟨⟨[115, 116]⟩⟩, .string (dec rd), .string (dec ra), .string (dec rb), .string (dec im)], 9, false⟩ := ⟨_, rfl⟩
  have nH3_ : H3_.n = H2_.n + 1 := by rw [hH3_]; rfl
  refine aopsU_mk 27 (.slice (some ⟨H2_.n, 0, none⟩) 5 5) H2_ H3_ (by kernel_rfl) (by kernel_rfl) (by kernel_rfl) (by kernel_rfl) ((by kernel_rfl : _ = some (Res.val (.slice (some ⟨H2_.n, 0, none⟩) 5 5), H2_.push ⟨[Value.string ⟨⟨[115, 116]⟩⟩, .string (dec rd), .string (dec ra), .string (dec rb), .string (dec im)], 9, false⟩)).trans (by rw [← hH3_])) (by kernel_rfl) (hH3_ ▸ Up.push (by omega) (Up.refl _) _) ?_
  refine aopsU_go 1 (by kernel_rfl) ?_
  refine aopsU_end (by kernel_rfl) (then_normal ?_)
  have gH3_H2__n : H3_.get (H2_.n) = some ⟨[Value.string ⟨⟨[115, 116]⟩⟩, .string (dec rd), .string (dec ra), .string (dec rb), .string (dec im)], 9, false⟩ := by rw [hH3_]; exact (Heap.get_push _ _ _).trans (if_pos rfl)
  refine tw_code f13bcccc_eq ?_
  refine tw_code (congrArg (Code.seq · .ret) f13bcccca_eq) ?_
  refine tw_seq (tw_region (T := T10) progOk10 (joinF_ok (B := H2_.n) (c := 5) (xs := [nameV 15, dec rd, dec ra, dec rb, dec im]) (sep := ⟨⟨[32]⟩⟩) (e := 9) (by simp) (by simp) (by simp [unk]) (by rw [joinS_eq]; have := textR_size (op := 15) h1u h2u h3u hi; omega)) joinF_grows (by kernel_rfl) (join_step (B := H2_.n) (H := H3_) (by kernel_rfl) (s4 := (by kernel_rfl)) (x := joinS [nameV 15, dec rd, dec ra, dec rb, dec im] ⟨⟨[32]⟩⟩) (hx := joinF_eq (xs := [nameV 15, dec rd, dec ra, dec rb, dec im]) (gH3_H2__n.trans (by kernel_rfl)))) ?_)
  refine then_normal ?_
  exact tw_ret ⟨.string (joinS [nameV 15, dec rd, dec ra, dec rb, dec im] ⟨⟨[32]⟩⟩), by kernel_rfl, by rw [joinS_eq]; unfold textV; rw [hr]; rfl⟩
theorem f13_16 [Bs] [Tb] {rd ra rb im : Int} {H : Heap} (hr : rightV 16 rd ra rb im = true) (h1 : regV rd = true) (h2 : regV ra = true) (h3 : regV rb = true) (hi : u32B im = true) (w0 : World) : Tw Tryd.prog 30 w0 f13b (RetIs T10 Tryd.f13.results fun r _ => r = .string (textV 16 rd ra rb im)) ⟨initTm 0 #[.agg #[.int .i64 16, .int .i64 rd, .int .i64 ra, .int .i64 rb, .int .u32 im]], H⟩ := by
  have hi64 := u32_64 hi; have h1u := reg_u32 h1; have h2u := reg_u32 h2; have h3u := reg_u32 h3; have hi2 := hi; simp only [u32B, Bool.and_eq_true, decide_eq_true_eq] at hi2
  refine tw_code f13b_eq ?_
  refine tw_seq (tw_aw progOk10 (by kernel_rfl) ?_)
  refine aw_code f13ba_eq ?_
  refine aw_reg ?_
  obtain ⟨H1_, hH1_⟩ : ∃ x : Heap, x = H.push ⟨[Value.int .i64 16, .int .i64 rd, .int .i64 ra, .int .i64 rb, .int .u32 im], 24, false⟩ := ⟨_, rfl⟩
  have nH1_ : H1_.n = H.n + 1 := by rw [hH1_]; rfl
  refine aops_val 1 (.pointer (some ⟨H.n, 0, none⟩)) H1_ (by kernel_rfl) (by kernel_rfl) (by kernel_rfl) ((by kernel_rfl : _ = some (Res.val (.pointer (some ⟨H.n, 0, none⟩)), H.push ⟨[Value.int .i64 16, .int .i64 rd, .int .i64 ra, .int .i64 rb, .int .u32 im], 24, false⟩)).trans (by rw [← hH1_])) ?_
  refine aops_go 1 60 (by kernel_rfl) ?_
  refine aops_end (by kernel_rfl) (then_normal ?_)
  refine tw_code f13bc_eq ?_
  refine tw_seq (tw_aw progOk10 (by kernel_rfl) ?_)
  refine aw_code f13bca_eq ?_
  refine aw_then ?_
  refine aw_code f13bcaa_eq ?_
  refine aw_reg ?_
  have gH1_H_n : H1_.get (H.n) = some ⟨[Value.int .i64 16, .int .i64 rd, .int .i64 ra, .int .i64 rb, .int .u32 im], 24, false⟩ := by rw [hH1_]; exact (Heap.get_push _ _ _).trans (if_pos rfl)
  refine aops_val 5 (.agg #[.int .i64 16, .int .i64 rd, .int .i64 ra, .int .i64 rb, .int .u32 im]) H1_ (by kernel_rfl) (by kernel_rfl) (by kernel_rfl) ((by kernel_rfl : _ = val (aload T10 24 (.pointer (some ⟨H.n, 0, none⟩)) H1_) H1_).trans (val_of ((aload_at gH1_H_n).trans (by kernel_rfl)))) ?_
  refine aops_ask 6 (.bool true) 19 #[.agg #[.int .i64 16, .int .i64 rd, .int .i64 ra, .int .i64 rb, .int .u32 im]] (by kernel_rfl) (by kernel_rfl) (by kernel_rfl) (by kernel_rfl) (show some (Value.bool (rightV 16 rd ra rb im)) = _ by rw [hr]) ?_
  refine aops_go 1 60 (by kernel_rfl) ?_
  refine aops_end (by kernel_rfl) (then_normal ?_)
  refine aw_code f13bcac_eq ?_
  refine aw_cond (t := false) (by kernel_rfl) ?_
  refine aw_skip (then_normal ?_)
  refine tw_code f13bcc_eq ?_
  refine tw_seq (tw_aw progOk10 (by kernel_rfl) ?_)
  refine aw_code f13bcca_eq ?_
  refine aw_reg ?_
  obtain ⟨H2_, hH2_⟩ : ∃ x : Heap, x = H1_.push ⟨[Value.string ⟨⟨[110, 111, 112]⟩⟩, .string ⟨⟨[108, 105]⟩⟩, .string ⟨⟨[109, 111, 118]⟩⟩, .string ⟨⟨[97, 100, 100]⟩⟩, .string ⟨⟨[115, 117, 98]⟩⟩, .string ⟨⟨[97, 110, 100]⟩⟩, .string ⟨⟨[111, 114]⟩⟩, .string ⟨⟨[120, 111, 114]⟩⟩, .string ⟨⟨[115, 104, 108]⟩⟩, .string ⟨⟨[115, 104, 114]⟩⟩, .string ⟨⟨[109, 117, 108]⟩⟩, .string ⟨⟨[100, 105, 118]⟩⟩, .string ⟨⟨[108, 116, 117]⟩⟩, .string ⟨⟨[101, 113]⟩⟩, .string ⟨⟨[108, 100]⟩⟩, .string ⟨⟨[115, 116]⟩⟩, .string ⟨⟨[98, 101, 113, 122]⟩⟩, .string ⟨⟨[98, 110, 101, 122]⟩⟩, .string ⟨⟨[106, 109, 112]⟩⟩, .string ⟨⟨[101, 120, 105, 116]⟩⟩], 9, false⟩ := ⟨_, rfl⟩
  have nH2_ : H2_.n = H1_.n + 1 := by rw [hH2_]; rfl
  refine aops_val 8 (.slice (some ⟨H1_.n, 0, none⟩) 20 20) H2_ (by kernel_rfl) (by kernel_rfl) (by kernel_rfl) ((by kernel_rfl : _ = some (Res.val (.slice (some ⟨H1_.n, 0, none⟩) 20 20), H1_.push ⟨[Value.string ⟨⟨[110, 111, 112]⟩⟩, .string ⟨⟨[108, 105]⟩⟩, .string ⟨⟨[109, 111, 118]⟩⟩, .string ⟨⟨[97, 100, 100]⟩⟩, .string ⟨⟨[115, 117, 98]⟩⟩, .string ⟨⟨[97, 110, 100]⟩⟩, .string ⟨⟨[111, 114]⟩⟩, .string ⟨⟨[120, 111, 114]⟩⟩, .string ⟨⟨[115, 104, 108]⟩⟩, .string ⟨⟨[115, 104, 114]⟩⟩, .string ⟨⟨[109, 117, 108]⟩⟩, .string ⟨⟨[100, 105, 118]⟩⟩, .string ⟨⟨[108, 116, 117]⟩⟩, .string ⟨⟨[101, 113]⟩⟩, .string ⟨⟨[108, 100]⟩⟩, .string ⟨⟨[115, 116]⟩⟩, .string ⟨⟨[98, 101, 113, 122]⟩⟩, .string ⟨⟨[98, 110, 101, 122]⟩⟩, .string ⟨⟨[106, 109, 112]⟩⟩, .string ⟨⟨[101, 120, 105, 116]⟩⟩], 9, false⟩)).trans (by rw [← hH2_])) ?_
  refine aops_go 1 60 (by kernel_rfl) ?_
  refine aops_end (by kernel_rfl) (then_normal ?_)
  refine tw_code f13bccc_eq ?_
  refine tw_seq (tw_aw progOk10 (by kernel_rfl) ?_)
  refine aw_code f13bccca_eq ?_
  refine aw_drawU (H2_.n) ?_
  refine aopsU_go 2 (by kernel_rfl) ?_
  have gH2_H_n : H2_.get (H.n) = some ⟨[Value.int .i64 16, .int .i64 rd, .int .i64 ra, .int .i64 rb, .int .u32 im], 24, false⟩ := by rw [hH2_, Heap.get_push, if_neg (by omega)]; exact gH1_H_n
  refine aopsU_look 11 (.int .i64 16) (.pointer (some ⟨H.n, 0, none⟩)) (.tmp 10) H2_ (by kernel_rfl) (by kernel_rfl) (by kernel_rfl) (by kernel_rfl) (by kernel_rfl) (by kernel_rfl) ((by kernel_rfl : _ = aload T10 3 (.pointer (some ⟨H.n, 0, none⟩)) H2_).trans ((aload_at gH2_H_n).trans (by kernel_rfl))) (veq_int _ _) (lowB_ptr (by omega)) ((by kernel_rfl : _ = val (aload T10 3 (.pointer (some ⟨H.n, 0, none⟩)) H2_) H2_).trans (val_to ((aload_at gH2_H_n).trans (by kernel_rfl)) (by kernel_rfl))) ?_
  refine aopsU_go 1 (by kernel_rfl) ?_
  have gH2_H1__n : H2_.get (H1_.n) = some ⟨[Value.string ⟨⟨[110, 111, 112]⟩⟩, .string ⟨⟨[108, 105]⟩⟩, .string ⟨⟨[109, 111, 118]⟩⟩, .string ⟨⟨[97, 100, 100]⟩⟩, .string ⟨⟨[115, 117, 98]⟩⟩, .string ⟨⟨[97, 110, 100]⟩⟩, .string ⟨⟨[111, 114]⟩⟩, .string ⟨⟨[120, 111, 114]⟩⟩, .string ⟨⟨[115, 104, 108]⟩⟩, .string ⟨⟨[115, 104, 114]⟩⟩, .string ⟨⟨[109, 117, 108]⟩⟩, .string ⟨⟨[100, 105, 118]⟩⟩, .string ⟨⟨[108, 116, 117]⟩⟩, .string ⟨⟨[101, 113]⟩⟩, .string ⟨⟨[108, 100]⟩⟩, .string ⟨⟨[115, 116]⟩⟩, .string ⟨⟨[98, 101, 113, 122]⟩⟩, .string ⟨⟨[98, 110, 101, 122]⟩⟩, .string ⟨⟨[106, 109, 112]⟩⟩, .string ⟨⟨[101, 120, 105, 116]⟩⟩], 9, false⟩ := by rw [hH2_]; exact (Heap.get_push _ _ _).trans (if_pos rfl)
  refine aopsU_look 13 (.string ⟨⟨[98, 101, 113, 122]⟩⟩) (.pointer (some ⟨H1_.n, 16, none⟩)) (.tmp 12) H2_ (by kernel_rfl) (by kernel_rfl) (by kernel_rfl) (by kernel_rfl) (by kernel_rfl) (by kernel_rfl) ((by kernel_rfl : _ = aload T10 9 (.pointer (some ⟨H1_.n, 16, none⟩)) H2_).trans ((aload_at gH2_H1__n).trans (by kernel_rfl))) (by simp [veq, veqs, veq0]) (lowB_ptr (by omega)) ((by kernel_rfl : _ = val (aload T10 9 (.pointer (some ⟨H1_.n, 16, none⟩)) H2_) H2_).trans (val_to ((aload_at gH2_H1__n).trans (by kernel_rfl)) (by kernel_rfl))) ?_
  refine aopsU_go 1 (by kernel_rfl) ?_
  refine aopsU_look 15 (.int .i64 rd) (.pointer (some ⟨H.n, 1, none⟩)) (.tmp 14) H2_ (by kernel_rfl) (by kernel_rfl) (by kernel_rfl) (by kernel_rfl) (by kernel_rfl) (by kernel_rfl) ((by kernel_rfl : _ = aload T10 3 (.pointer (some ⟨H.n, 1, none⟩)) H2_).trans ((aload_at gH2_H_n).trans (by kernel_rfl))) (veq_int _ _) (lowB_ptr (by omega)) ((by kernel_rfl : _ = val (aload T10 3 (.pointer (some ⟨H.n, 1, none⟩)) H2_) H2_).trans (val_to ((aload_at gH2_H_n).trans (by kernel_rfl)) (by kernel_rfl))) ?_
  refine aopsU_ask 16 (.string (dec rd)) 23 #[.int .i64 rd] (by kernel_rfl) (by kernel_rfl) (by kernel_rfl) (by kernel_rfl) (orc23 rd h1) ?_
  refine aopsU_go 1 (by kernel_rfl) ?_
  refine aopsU_look 18 (.int .i64 ra) (.pointer (some ⟨H.n, 2, none⟩)) (.tmp 17) H2_ (by kernel_rfl) (by kernel_rfl) (by kernel_rfl) (by kernel_rfl) (by kernel_rfl) (by kernel_rfl) ((by kernel_rfl : _ = aload T10 3 (.pointer (some ⟨H.n, 2, none⟩)) H2_).trans ((aload_at gH2_H_n).trans (by kernel_rfl))) (veq_int _ _) (lowB_ptr (by omega)) ((by kernel_rfl : _ = val (aload T10 3 (.pointer (some ⟨H.n, 2, none⟩)) H2_) H2_).trans (val_to ((aload_at gH2_H_n).trans (by kernel_rfl)) (by kernel_rfl))) ?_
  refine aopsU_ask 19 (.string (dec ra)) 23 #[.int .i64 ra] (by kernel_rfl) (by kernel_rfl) (by kernel_rfl) (by kernel_rfl) (orc23 ra h2) ?_
  refine aopsU_go 1 (by kernel_rfl) ?_
  refine aopsU_look 21 (.int .i64 rb) (.pointer (some ⟨H.n, 3, none⟩)) (.tmp 20) H2_ (by kernel_rfl) (by kernel_rfl) (by kernel_rfl) (by kernel_rfl) (by kernel_rfl) (by kernel_rfl) ((by kernel_rfl : _ = aload T10 3 (.pointer (some ⟨H.n, 3, none⟩)) H2_).trans ((aload_at gH2_H_n).trans (by kernel_rfl))) (veq_int _ _) (lowB_ptr (by omega)) ((by kernel_rfl : _ = val (aload T10 3 (.pointer (some ⟨H.n, 3, none⟩)) H2_) H2_).trans (val_to ((aload_at gH2_H_n).trans (by kernel_rfl)) (by kernel_rfl))) ?_
  refine aopsU_ask 22 (.string (dec rb)) 23 #[.int .i64 rb] (by kernel_rfl) (by kernel_rfl) (by kernel_rfl) (by kernel_rfl) (orc23 rb h3) ?_
  refine aopsU_go 1 (by kernel_rfl) ?_
  refine aopsU_look 24 (.int .u32 im) (.pointer (some ⟨H.n, 4, none⟩)) (.tmp 23) H2_ (by kernel_rfl) (by kernel_rfl) (by kernel_rfl) (by kernel_rfl) (by kernel_rfl) (by kernel_rfl) ((by kernel_rfl : _ = aload T10 22 (.pointer (some ⟨H.n, 4, none⟩)) H2_).trans ((aload_at gH2_H_n).trans (by kernel_rfl))) (veq_int _ _) (lowB_ptr (by omega)) ((by kernel_rfl : _ = val (aload T10 22 (.pointer (some ⟨H.n, 4, none⟩)) H2_) H2_).trans (val_to ((aload_at gH2_H_n).trans (by kernel_rfl)) (by kernel_rfl))) ?_
  refine aopsU_pt 25 (.int .u64 (IntKind.u64.wrap im)) (by kernel_rfl) (by kernel_rfl) (by kernel_rfl) (by kernel_rfl) (by kernel_rfl) ?_
  refine aopsU_see 25 (.int .u64 im) (see_int (x := IntKind.u64.wrap im) (by kernel_rfl) (wu64 rfl (by omega) (by omega))) ?_
  refine aopsU_ask 26 (.string (dec im)) 24 #[.int .u64 im, .int .i64 10] (by kernel_rfl) (by kernel_rfl) (by kernel_rfl) (by kernel_rfl) (orc24 im hi64) ?_
  obtain ⟨H3_, hH3_⟩ : ∃ x : Heap, x = H2_.push ⟨[Value.string ⟨⟨[98, 101, 113, 122]⟩⟩, .string (dec rd), .string (dec ra), .string (dec rb), .string (dec im)], 9, false⟩ := ⟨_, rfl⟩
  have nH3_ : H3_.n = H2_.n + 1 := by rw [hH3_]; rfl
  refine aopsU_mk 27 (.slice (some ⟨H2_.n, 0, none⟩) 5 5) H2_ H3_ (by kernel_rfl) (by kernel_rfl) (by kernel_rfl) (by kernel_rfl) ((by kernel_rfl : _ = some (Res.val (.slice (some ⟨H2_.n, 0, none⟩) 5 5), H2_.push ⟨[Value.string ⟨⟨[98, 101, 113, 122]⟩⟩, .string (dec rd), .string (dec ra), .string (dec rb), .string (dec im)], 9, false⟩)).trans (by rw [← hH3_])) (by kernel_rfl) (hH3_ ▸ Up.push (by omega) (Up.refl _) _) ?_
  refine aopsU_go 1 (by kernel_rfl) ?_
  refine aopsU_end (by kernel_rfl) (then_normal ?_)
  have gH3_H2__n : H3_.get (H2_.n) = some ⟨[Value.string ⟨⟨[98, 101, 113, 122]⟩⟩, .string (dec rd), .string (dec ra), .string (dec rb), .string (dec im)], 9, false⟩ := by rw [hH3_]; exact (Heap.get_push _ _ _).trans (if_pos rfl)
  refine tw_code f13bcccc_eq ?_
  refine tw_code (congrArg (Code.seq · .ret) f13bcccca_eq) ?_
  refine tw_seq (tw_region (T := T10) progOk10 (joinF_ok (B := H2_.n) (c := 5) (xs := [nameV 16, dec rd, dec ra, dec rb, dec im]) (sep := ⟨⟨[32]⟩⟩) (e := 9) (by simp) (by simp) (by simp [unk]) (by rw [joinS_eq]; have := textR_size (op := 16) h1u h2u h3u hi; omega)) joinF_grows (by kernel_rfl) (join_step (B := H2_.n) (H := H3_) (by kernel_rfl) (s4 := (by kernel_rfl)) (x := joinS [nameV 16, dec rd, dec ra, dec rb, dec im] ⟨⟨[32]⟩⟩) (hx := joinF_eq (xs := [nameV 16, dec rd, dec ra, dec rb, dec im]) (gH3_H2__n.trans (by kernel_rfl)))) ?_)
  refine then_normal ?_
  exact tw_ret ⟨.string (joinS [nameV 16, dec rd, dec ra, dec rb, dec im] ⟨⟨[32]⟩⟩), by kernel_rfl, by rw [joinS_eq]; unfold textV; rw [hr]; rfl⟩
theorem f13_17 [Bs] [Tb] {rd ra rb im : Int} {H : Heap} (hr : rightV 17 rd ra rb im = true) (h1 : regV rd = true) (h2 : regV ra = true) (h3 : regV rb = true) (hi : u32B im = true) (w0 : World) : Tw Tryd.prog 30 w0 f13b (RetIs T10 Tryd.f13.results fun r _ => r = .string (textV 17 rd ra rb im)) ⟨initTm 0 #[.agg #[.int .i64 17, .int .i64 rd, .int .i64 ra, .int .i64 rb, .int .u32 im]], H⟩ := by
  have hi64 := u32_64 hi; have h1u := reg_u32 h1; have h2u := reg_u32 h2; have h3u := reg_u32 h3; have hi2 := hi; simp only [u32B, Bool.and_eq_true, decide_eq_true_eq] at hi2
  refine tw_code f13b_eq ?_
  refine tw_seq (tw_aw progOk10 (by kernel_rfl) ?_)
  refine aw_code f13ba_eq ?_
  refine aw_reg ?_
  obtain ⟨H1_, hH1_⟩ : ∃ x : Heap, x = H.push ⟨[Value.int .i64 17, .int .i64 rd, .int .i64 ra, .int .i64 rb, .int .u32 im], 24, false⟩ := ⟨_, rfl⟩
  have nH1_ : H1_.n = H.n + 1 := by rw [hH1_]; rfl
  refine aops_val 1 (.pointer (some ⟨H.n, 0, none⟩)) H1_ (by kernel_rfl) (by kernel_rfl) (by kernel_rfl) ((by kernel_rfl : _ = some (Res.val (.pointer (some ⟨H.n, 0, none⟩)), H.push ⟨[Value.int .i64 17, .int .i64 rd, .int .i64 ra, .int .i64 rb, .int .u32 im], 24, false⟩)).trans (by rw [← hH1_])) ?_
  refine aops_go 1 60 (by kernel_rfl) ?_
  refine aops_end (by kernel_rfl) (then_normal ?_)
  refine tw_code f13bc_eq ?_
  refine tw_seq (tw_aw progOk10 (by kernel_rfl) ?_)
  refine aw_code f13bca_eq ?_
  refine aw_then ?_
  refine aw_code f13bcaa_eq ?_
  refine aw_reg ?_
  have gH1_H_n : H1_.get (H.n) = some ⟨[Value.int .i64 17, .int .i64 rd, .int .i64 ra, .int .i64 rb, .int .u32 im], 24, false⟩ := by rw [hH1_]; exact (Heap.get_push _ _ _).trans (if_pos rfl)
  refine aops_val 5 (.agg #[.int .i64 17, .int .i64 rd, .int .i64 ra, .int .i64 rb, .int .u32 im]) H1_ (by kernel_rfl) (by kernel_rfl) (by kernel_rfl) ((by kernel_rfl : _ = val (aload T10 24 (.pointer (some ⟨H.n, 0, none⟩)) H1_) H1_).trans (val_of ((aload_at gH1_H_n).trans (by kernel_rfl)))) ?_
  refine aops_ask 6 (.bool true) 19 #[.agg #[.int .i64 17, .int .i64 rd, .int .i64 ra, .int .i64 rb, .int .u32 im]] (by kernel_rfl) (by kernel_rfl) (by kernel_rfl) (by kernel_rfl) (show some (Value.bool (rightV 17 rd ra rb im)) = _ by rw [hr]) ?_
  refine aops_go 1 60 (by kernel_rfl) ?_
  refine aops_end (by kernel_rfl) (then_normal ?_)
  refine aw_code f13bcac_eq ?_
  refine aw_cond (t := false) (by kernel_rfl) ?_
  refine aw_skip (then_normal ?_)
  refine tw_code f13bcc_eq ?_
  refine tw_seq (tw_aw progOk10 (by kernel_rfl) ?_)
  refine aw_code f13bcca_eq ?_
  refine aw_reg ?_
  obtain ⟨H2_, hH2_⟩ : ∃ x : Heap, x = H1_.push ⟨[Value.string ⟨⟨[110, 111, 112]⟩⟩, .string ⟨⟨[108, 105]⟩⟩, .string ⟨⟨[109, 111, 118]⟩⟩, .string ⟨⟨[97, 100, 100]⟩⟩, .string ⟨⟨[115, 117, 98]⟩⟩, .string ⟨⟨[97, 110, 100]⟩⟩, .string ⟨⟨[111, 114]⟩⟩, .string ⟨⟨[120, 111, 114]⟩⟩, .string ⟨⟨[115, 104, 108]⟩⟩, .string ⟨⟨[115, 104, 114]⟩⟩, .string ⟨⟨[109, 117, 108]⟩⟩, .string ⟨⟨[100, 105, 118]⟩⟩, .string ⟨⟨[108, 116, 117]⟩⟩, .string ⟨⟨[101, 113]⟩⟩, .string ⟨⟨[108, 100]⟩⟩, .string ⟨⟨[115, 116]⟩⟩, .string ⟨⟨[98, 101, 113, 122]⟩⟩, .string ⟨⟨[98, 110, 101, 122]⟩⟩, .string ⟨⟨[106, 109, 112]⟩⟩, .string ⟨⟨[101, 120, 105, 116]⟩⟩], 9, false⟩ := ⟨_, rfl⟩
  have nH2_ : H2_.n = H1_.n + 1 := by rw [hH2_]; rfl
  refine aops_val 8 (.slice (some ⟨H1_.n, 0, none⟩) 20 20) H2_ (by kernel_rfl) (by kernel_rfl) (by kernel_rfl) ((by kernel_rfl : _ = some (Res.val (.slice (some ⟨H1_.n, 0, none⟩) 20 20), H1_.push ⟨[Value.string ⟨⟨[110, 111, 112]⟩⟩, .string ⟨⟨[108, 105]⟩⟩, .string ⟨⟨[109, 111, 118]⟩⟩, .string ⟨⟨[97, 100, 100]⟩⟩, .string ⟨⟨[115, 117, 98]⟩⟩, .string ⟨⟨[97, 110, 100]⟩⟩, .string ⟨⟨[111, 114]⟩⟩, .string ⟨⟨[120, 111, 114]⟩⟩, .string ⟨⟨[115, 104, 108]⟩⟩, .string ⟨⟨[115, 104, 114]⟩⟩, .string ⟨⟨[109, 117, 108]⟩⟩, .string ⟨⟨[100, 105, 118]⟩⟩, .string ⟨⟨[108, 116, 117]⟩⟩, .string ⟨⟨[101, 113]⟩⟩, .string ⟨⟨[108, 100]⟩⟩, .string ⟨⟨[115, 116]⟩⟩, .string ⟨⟨[98, 101, 113, 122]⟩⟩, .string ⟨⟨[98, 110, 101, 122]⟩⟩, .string ⟨⟨[106, 109, 112]⟩⟩, .string ⟨⟨[101, 120, 105, 116]⟩⟩], 9, false⟩)).trans (by rw [← hH2_])) ?_
  refine aops_go 1 60 (by kernel_rfl) ?_
  refine aops_end (by kernel_rfl) (then_normal ?_)
  refine tw_code f13bccc_eq ?_
  refine tw_seq (tw_aw progOk10 (by kernel_rfl) ?_)
  refine aw_code f13bccca_eq ?_
  refine aw_drawU (H2_.n) ?_
  refine aopsU_go 2 (by kernel_rfl) ?_
  have gH2_H_n : H2_.get (H.n) = some ⟨[Value.int .i64 17, .int .i64 rd, .int .i64 ra, .int .i64 rb, .int .u32 im], 24, false⟩ := by rw [hH2_, Heap.get_push, if_neg (by omega)]; exact gH1_H_n
  refine aopsU_look 11 (.int .i64 17) (.pointer (some ⟨H.n, 0, none⟩)) (.tmp 10) H2_ (by kernel_rfl) (by kernel_rfl) (by kernel_rfl) (by kernel_rfl) (by kernel_rfl) (by kernel_rfl) ((by kernel_rfl : _ = aload T10 3 (.pointer (some ⟨H.n, 0, none⟩)) H2_).trans ((aload_at gH2_H_n).trans (by kernel_rfl))) (veq_int _ _) (lowB_ptr (by omega)) ((by kernel_rfl : _ = val (aload T10 3 (.pointer (some ⟨H.n, 0, none⟩)) H2_) H2_).trans (val_to ((aload_at gH2_H_n).trans (by kernel_rfl)) (by kernel_rfl))) ?_
  refine aopsU_go 1 (by kernel_rfl) ?_
  have gH2_H1__n : H2_.get (H1_.n) = some ⟨[Value.string ⟨⟨[110, 111, 112]⟩⟩, .string ⟨⟨[108, 105]⟩⟩, .string ⟨⟨[109, 111, 118]⟩⟩, .string ⟨⟨[97, 100, 100]⟩⟩, .string ⟨⟨[115, 117, 98]⟩⟩, .string ⟨⟨[97, 110, 100]⟩⟩, .string ⟨⟨[111, 114]⟩⟩, .string ⟨⟨[120, 111, 114]⟩⟩, .string ⟨⟨[115, 104, 108]⟩⟩, .string ⟨⟨[115, 104, 114]⟩⟩, .string ⟨⟨[109, 117, 108]⟩⟩, .string ⟨⟨[100, 105, 118]⟩⟩, .string ⟨⟨[108, 116, 117]⟩⟩, .string ⟨⟨[101, 113]⟩⟩, .string ⟨⟨[108, 100]⟩⟩, .string ⟨⟨[115, 116]⟩⟩, .string ⟨⟨[98, 101, 113, 122]⟩⟩, .string ⟨⟨[98, 110, 101, 122]⟩⟩, .string ⟨⟨[106, 109, 112]⟩⟩, .string ⟨⟨[101, 120, 105, 116]⟩⟩], 9, false⟩ := by rw [hH2_]; exact (Heap.get_push _ _ _).trans (if_pos rfl)
  refine aopsU_look 13 (.string ⟨⟨[98, 110, 101, 122]⟩⟩) (.pointer (some ⟨H1_.n, 17, none⟩)) (.tmp 12) H2_ (by kernel_rfl) (by kernel_rfl) (by kernel_rfl) (by kernel_rfl) (by kernel_rfl) (by kernel_rfl) ((by kernel_rfl : _ = aload T10 9 (.pointer (some ⟨H1_.n, 17, none⟩)) H2_).trans ((aload_at gH2_H1__n).trans (by kernel_rfl))) (by simp [veq, veqs, veq0]) (lowB_ptr (by omega)) ((by kernel_rfl : _ = val (aload T10 9 (.pointer (some ⟨H1_.n, 17, none⟩)) H2_) H2_).trans (val_to ((aload_at gH2_H1__n).trans (by kernel_rfl)) (by kernel_rfl))) ?_
  refine aopsU_go 1 (by kernel_rfl) ?_
  refine aopsU_look 15 (.int .i64 rd) (.pointer (some ⟨H.n, 1, none⟩)) (.tmp 14) H2_ (by kernel_rfl) (by kernel_rfl) (by kernel_rfl) (by kernel_rfl) (by kernel_rfl) (by kernel_rfl) ((by kernel_rfl : _ = aload T10 3 (.pointer (some ⟨H.n, 1, none⟩)) H2_).trans ((aload_at gH2_H_n).trans (by kernel_rfl))) (veq_int _ _) (lowB_ptr (by omega)) ((by kernel_rfl : _ = val (aload T10 3 (.pointer (some ⟨H.n, 1, none⟩)) H2_) H2_).trans (val_to ((aload_at gH2_H_n).trans (by kernel_rfl)) (by kernel_rfl))) ?_
  refine aopsU_ask 16 (.string (dec rd)) 23 #[.int .i64 rd] (by kernel_rfl) (by kernel_rfl) (by kernel_rfl) (by kernel_rfl) (orc23 rd h1) ?_
  refine aopsU_go 1 (by kernel_rfl) ?_
  refine aopsU_look 18 (.int .i64 ra) (.pointer (some ⟨H.n, 2, none⟩)) (.tmp 17) H2_ (by kernel_rfl) (by kernel_rfl) (by kernel_rfl) (by kernel_rfl) (by kernel_rfl) (by kernel_rfl) ((by kernel_rfl : _ = aload T10 3 (.pointer (some ⟨H.n, 2, none⟩)) H2_).trans ((aload_at gH2_H_n).trans (by kernel_rfl))) (veq_int _ _) (lowB_ptr (by omega)) ((by kernel_rfl : _ = val (aload T10 3 (.pointer (some ⟨H.n, 2, none⟩)) H2_) H2_).trans (val_to ((aload_at gH2_H_n).trans (by kernel_rfl)) (by kernel_rfl))) ?_
  refine aopsU_ask 19 (.string (dec ra)) 23 #[.int .i64 ra] (by kernel_rfl) (by kernel_rfl) (by kernel_rfl) (by kernel_rfl) (orc23 ra h2) ?_
  refine aopsU_go 1 (by kernel_rfl) ?_
  refine aopsU_look 21 (.int .i64 rb) (.pointer (some ⟨H.n, 3, none⟩)) (.tmp 20) H2_ (by kernel_rfl) (by kernel_rfl) (by kernel_rfl) (by kernel_rfl) (by kernel_rfl) (by kernel_rfl) ((by kernel_rfl : _ = aload T10 3 (.pointer (some ⟨H.n, 3, none⟩)) H2_).trans ((aload_at gH2_H_n).trans (by kernel_rfl))) (veq_int _ _) (lowB_ptr (by omega)) ((by kernel_rfl : _ = val (aload T10 3 (.pointer (some ⟨H.n, 3, none⟩)) H2_) H2_).trans (val_to ((aload_at gH2_H_n).trans (by kernel_rfl)) (by kernel_rfl))) ?_
  refine aopsU_ask 22 (.string (dec rb)) 23 #[.int .i64 rb] (by kernel_rfl) (by kernel_rfl) (by kernel_rfl) (by kernel_rfl) (orc23 rb h3) ?_
  refine aopsU_go 1 (by kernel_rfl) ?_
  refine aopsU_look 24 (.int .u32 im) (.pointer (some ⟨H.n, 4, none⟩)) (.tmp 23) H2_ (by kernel_rfl) (by kernel_rfl) (by kernel_rfl) (by kernel_rfl) (by kernel_rfl) (by kernel_rfl) ((by kernel_rfl : _ = aload T10 22 (.pointer (some ⟨H.n, 4, none⟩)) H2_).trans ((aload_at gH2_H_n).trans (by kernel_rfl))) (veq_int _ _) (lowB_ptr (by omega)) ((by kernel_rfl : _ = val (aload T10 22 (.pointer (some ⟨H.n, 4, none⟩)) H2_) H2_).trans (val_to ((aload_at gH2_H_n).trans (by kernel_rfl)) (by kernel_rfl))) ?_
  refine aopsU_pt 25 (.int .u64 (IntKind.u64.wrap im)) (by kernel_rfl) (by kernel_rfl) (by kernel_rfl) (by kernel_rfl) (by kernel_rfl) ?_
  refine aopsU_see 25 (.int .u64 im) (see_int (x := IntKind.u64.wrap im) (by kernel_rfl) (wu64 rfl (by omega) (by omega))) ?_
  refine aopsU_ask 26 (.string (dec im)) 24 #[.int .u64 im, .int .i64 10] (by kernel_rfl) (by kernel_rfl) (by kernel_rfl) (by kernel_rfl) (orc24 im hi64) ?_
  obtain ⟨H3_, hH3_⟩ : ∃ x : Heap, x = H2_.push ⟨[Value.string ⟨⟨[98, 110, 101, 122]⟩⟩, .string (dec rd), .string (dec ra), .string (dec rb), .string (dec im)], 9, false⟩ := ⟨_, rfl⟩
  have nH3_ : H3_.n = H2_.n + 1 := by rw [hH3_]; rfl
  refine aopsU_mk 27 (.slice (some ⟨H2_.n, 0, none⟩) 5 5) H2_ H3_ (by kernel_rfl) (by kernel_rfl) (by kernel_rfl) (by kernel_rfl) ((by kernel_rfl : _ = some (Res.val (.slice (some ⟨H2_.n, 0, none⟩) 5 5), H2_.push ⟨[Value.string ⟨⟨[98, 110, 101, 122]⟩⟩, .string (dec rd), .string (dec ra), .string (dec rb), .string (dec im)], 9, false⟩)).trans (by rw [← hH3_])) (by kernel_rfl) (hH3_ ▸ Up.push (by omega) (Up.refl _) _) ?_
  refine aopsU_go 1 (by kernel_rfl) ?_
  refine aopsU_end (by kernel_rfl) (then_normal ?_)
  have gH3_H2__n : H3_.get (H2_.n) = some ⟨[Value.string ⟨⟨[98, 110, 101, 122]⟩⟩, .string (dec rd), .string (dec ra), .string (dec rb), .string (dec im)], 9, false⟩ := by rw [hH3_]; exact (Heap.get_push _ _ _).trans (if_pos rfl)
  refine tw_code f13bcccc_eq ?_
  refine tw_code (congrArg (Code.seq · .ret) f13bcccca_eq) ?_
  refine tw_seq (tw_region (T := T10) progOk10 (joinF_ok (B := H2_.n) (c := 5) (xs := [nameV 17, dec rd, dec ra, dec rb, dec im]) (sep := ⟨⟨[32]⟩⟩) (e := 9) (by simp) (by simp) (by simp [unk]) (by rw [joinS_eq]; have := textR_size (op := 17) h1u h2u h3u hi; omega)) joinF_grows (by kernel_rfl) (join_step (B := H2_.n) (H := H3_) (by kernel_rfl) (s4 := (by kernel_rfl)) (x := joinS [nameV 17, dec rd, dec ra, dec rb, dec im] ⟨⟨[32]⟩⟩) (hx := joinF_eq (xs := [nameV 17, dec rd, dec ra, dec rb, dec im]) (gH3_H2__n.trans (by kernel_rfl)))) ?_)
  refine then_normal ?_
  exact tw_ret ⟨.string (joinS [nameV 17, dec rd, dec ra, dec rb, dec im] ⟨⟨[32]⟩⟩), by kernel_rfl, by rw [joinS_eq]; unfold textV; rw [hr]; rfl⟩
theorem f13_18 [Bs] [Tb] {rd ra rb im : Int} {H : Heap} (hr : rightV 18 rd ra rb im = true) (h1 : regV rd = true) (h2 : regV ra = true) (h3 : regV rb = true) (hi : u32B im = true) (w0 : World) : Tw Tryd.prog 30 w0 f13b (RetIs T10 Tryd.f13.results fun r _ => r = .string (textV 18 rd ra rb im)) ⟨initTm 0 #[.agg #[.int .i64 18, .int .i64 rd, .int .i64 ra, .int .i64 rb, .int .u32 im]], H⟩ := by
  have hi64 := u32_64 hi; have h1u := reg_u32 h1; have h2u := reg_u32 h2; have h3u := reg_u32 h3; have hi2 := hi; simp only [u32B, Bool.and_eq_true, decide_eq_true_eq] at hi2
  refine tw_code f13b_eq ?_
  refine tw_seq (tw_aw progOk10 (by kernel_rfl) ?_)
  refine aw_code f13ba_eq ?_
  refine aw_reg ?_
  obtain ⟨H1_, hH1_⟩ : ∃ x : Heap, x = H.push ⟨[Value.int .i64 18, .int .i64 rd, .int .i64 ra, .int .i64 rb, .int .u32 im], 24, false⟩ := ⟨_, rfl⟩
  have nH1_ : H1_.n = H.n + 1 := by rw [hH1_]; rfl
  refine aops_val 1 (.pointer (some ⟨H.n, 0, none⟩)) H1_ (by kernel_rfl) (by kernel_rfl) (by kernel_rfl) ((by kernel_rfl : _ = some (Res.val (.pointer (some ⟨H.n, 0, none⟩)), H.push ⟨[Value.int .i64 18, .int .i64 rd, .int .i64 ra, .int .i64 rb, .int .u32 im], 24, false⟩)).trans (by rw [← hH1_])) ?_
  refine aops_go 1 60 (by kernel_rfl) ?_
  refine aops_end (by kernel_rfl) (then_normal ?_)
  refine tw_code f13bc_eq ?_
  refine tw_seq (tw_aw progOk10 (by kernel_rfl) ?_)
  refine aw_code f13bca_eq ?_
  refine aw_then ?_
  refine aw_code f13bcaa_eq ?_
  refine aw_reg ?_
  have gH1_H_n : H1_.get (H.n) = some ⟨[Value.int .i64 18, .int .i64 rd, .int .i64 ra, .int .i64 rb, .int .u32 im], 24, false⟩ := by rw [hH1_]; exact (Heap.get_push _ _ _).trans (if_pos rfl)
  refine aops_val 5 (.agg #[.int .i64 18, .int .i64 rd, .int .i64 ra, .int .i64 rb, .int .u32 im]) H1_ (by kernel_rfl) (by kernel_rfl) (by kernel_rfl) ((by kernel_rfl : _ = val (aload T10 24 (.pointer (some ⟨H.n, 0, none⟩)) H1_) H1_).trans (val_of ((aload_at gH1_H_n).trans (by kernel_rfl)))) ?_
  refine aops_ask 6 (.bool true) 19 #[.agg #[.int .i64 18, .int .i64 rd, .int .i64 ra, .int .i64 rb, .int .u32 im]] (by kernel_rfl) (by kernel_rfl) (by kernel_rfl) (by kernel_rfl) (show some (Value.bool (rightV 18 rd ra rb im)) = _ by rw [hr]) ?_
  refine aops_go 1 60 (by kernel_rfl) ?_
  refine aops_end (by kernel_rfl) (then_normal ?_)
  refine aw_code f13bcac_eq ?_
  refine aw_cond (t := false) (by kernel_rfl) ?_
  refine aw_skip (then_normal ?_)
  refine tw_code f13bcc_eq ?_
  refine tw_seq (tw_aw progOk10 (by kernel_rfl) ?_)
  refine aw_code f13bcca_eq ?_
  refine aw_reg ?_
  obtain ⟨H2_, hH2_⟩ : ∃ x : Heap, x = H1_.push ⟨[Value.string ⟨⟨[110, 111, 112]⟩⟩, .string ⟨⟨[108, 105]⟩⟩, .string ⟨⟨[109, 111, 118]⟩⟩, .string ⟨⟨[97, 100, 100]⟩⟩, .string ⟨⟨[115, 117, 98]⟩⟩, .string ⟨⟨[97, 110, 100]⟩⟩, .string ⟨⟨[111, 114]⟩⟩, .string ⟨⟨[120, 111, 114]⟩⟩, .string ⟨⟨[115, 104, 108]⟩⟩, .string ⟨⟨[115, 104, 114]⟩⟩, .string ⟨⟨[109, 117, 108]⟩⟩, .string ⟨⟨[100, 105, 118]⟩⟩, .string ⟨⟨[108, 116, 117]⟩⟩, .string ⟨⟨[101, 113]⟩⟩, .string ⟨⟨[108, 100]⟩⟩, .string ⟨⟨[115, 116]⟩⟩, .string ⟨⟨[98, 101, 113, 122]⟩⟩, .string ⟨⟨[98, 110, 101, 122]⟩⟩, .string ⟨⟨[106, 109, 112]⟩⟩, .string ⟨⟨[101, 120, 105, 116]⟩⟩], 9, false⟩ := ⟨_, rfl⟩
  have nH2_ : H2_.n = H1_.n + 1 := by rw [hH2_]; rfl
  refine aops_val 8 (.slice (some ⟨H1_.n, 0, none⟩) 20 20) H2_ (by kernel_rfl) (by kernel_rfl) (by kernel_rfl) ((by kernel_rfl : _ = some (Res.val (.slice (some ⟨H1_.n, 0, none⟩) 20 20), H1_.push ⟨[Value.string ⟨⟨[110, 111, 112]⟩⟩, .string ⟨⟨[108, 105]⟩⟩, .string ⟨⟨[109, 111, 118]⟩⟩, .string ⟨⟨[97, 100, 100]⟩⟩, .string ⟨⟨[115, 117, 98]⟩⟩, .string ⟨⟨[97, 110, 100]⟩⟩, .string ⟨⟨[111, 114]⟩⟩, .string ⟨⟨[120, 111, 114]⟩⟩, .string ⟨⟨[115, 104, 108]⟩⟩, .string ⟨⟨[115, 104, 114]⟩⟩, .string ⟨⟨[109, 117, 108]⟩⟩, .string ⟨⟨[100, 105, 118]⟩⟩, .string ⟨⟨[108, 116, 117]⟩⟩, .string ⟨⟨[101, 113]⟩⟩, .string ⟨⟨[108, 100]⟩⟩, .string ⟨⟨[115, 116]⟩⟩, .string ⟨⟨[98, 101, 113, 122]⟩⟩, .string ⟨⟨[98, 110, 101, 122]⟩⟩, .string ⟨⟨[106, 109, 112]⟩⟩, .string ⟨⟨[101, 120, 105, 116]⟩⟩], 9, false⟩)).trans (by rw [← hH2_])) ?_
  refine aops_go 1 60 (by kernel_rfl) ?_
  refine aops_end (by kernel_rfl) (then_normal ?_)
  refine tw_code f13bccc_eq ?_
  refine tw_seq (tw_aw progOk10 (by kernel_rfl) ?_)
  refine aw_code f13bccca_eq ?_
  refine aw_drawU (H2_.n) ?_
  refine aopsU_go 2 (by kernel_rfl) ?_
  have gH2_H_n : H2_.get (H.n) = some ⟨[Value.int .i64 18, .int .i64 rd, .int .i64 ra, .int .i64 rb, .int .u32 im], 24, false⟩ := by rw [hH2_, Heap.get_push, if_neg (by omega)]; exact gH1_H_n
  refine aopsU_look 11 (.int .i64 18) (.pointer (some ⟨H.n, 0, none⟩)) (.tmp 10) H2_ (by kernel_rfl) (by kernel_rfl) (by kernel_rfl) (by kernel_rfl) (by kernel_rfl) (by kernel_rfl) ((by kernel_rfl : _ = aload T10 3 (.pointer (some ⟨H.n, 0, none⟩)) H2_).trans ((aload_at gH2_H_n).trans (by kernel_rfl))) (veq_int _ _) (lowB_ptr (by omega)) ((by kernel_rfl : _ = val (aload T10 3 (.pointer (some ⟨H.n, 0, none⟩)) H2_) H2_).trans (val_to ((aload_at gH2_H_n).trans (by kernel_rfl)) (by kernel_rfl))) ?_
  refine aopsU_go 1 (by kernel_rfl) ?_
  have gH2_H1__n : H2_.get (H1_.n) = some ⟨[Value.string ⟨⟨[110, 111, 112]⟩⟩, .string ⟨⟨[108, 105]⟩⟩, .string ⟨⟨[109, 111, 118]⟩⟩, .string ⟨⟨[97, 100, 100]⟩⟩, .string ⟨⟨[115, 117, 98]⟩⟩, .string ⟨⟨[97, 110, 100]⟩⟩, .string ⟨⟨[111, 114]⟩⟩, .string ⟨⟨[120, 111, 114]⟩⟩, .string ⟨⟨[115, 104, 108]⟩⟩, .string ⟨⟨[115, 104, 114]⟩⟩, .string ⟨⟨[109, 117, 108]⟩⟩, .string ⟨⟨[100, 105, 118]⟩⟩, .string ⟨⟨[108, 116, 117]⟩⟩, .string ⟨⟨[101, 113]⟩⟩, .string ⟨⟨[108, 100]⟩⟩, .string ⟨⟨[115, 116]⟩⟩, .string ⟨⟨[98, 101, 113, 122]⟩⟩, .string ⟨⟨[98, 110, 101, 122]⟩⟩, .string ⟨⟨[106, 109, 112]⟩⟩, .string ⟨⟨[101, 120, 105, 116]⟩⟩], 9, false⟩ := by rw [hH2_]; exact (Heap.get_push _ _ _).trans (if_pos rfl)
  refine aopsU_look 13 (.string ⟨⟨[106, 109, 112]⟩⟩) (.pointer (some ⟨H1_.n, 18, none⟩)) (.tmp 12) H2_ (by kernel_rfl) (by kernel_rfl) (by kernel_rfl) (by kernel_rfl) (by kernel_rfl) (by kernel_rfl) ((by kernel_rfl : _ = aload T10 9 (.pointer (some ⟨H1_.n, 18, none⟩)) H2_).trans ((aload_at gH2_H1__n).trans (by kernel_rfl))) (by simp [veq, veqs, veq0]) (lowB_ptr (by omega)) ((by kernel_rfl : _ = val (aload T10 9 (.pointer (some ⟨H1_.n, 18, none⟩)) H2_) H2_).trans (val_to ((aload_at gH2_H1__n).trans (by kernel_rfl)) (by kernel_rfl))) ?_
  refine aopsU_go 1 (by kernel_rfl) ?_
  refine aopsU_look 15 (.int .i64 rd) (.pointer (some ⟨H.n, 1, none⟩)) (.tmp 14) H2_ (by kernel_rfl) (by kernel_rfl) (by kernel_rfl) (by kernel_rfl) (by kernel_rfl) (by kernel_rfl) ((by kernel_rfl : _ = aload T10 3 (.pointer (some ⟨H.n, 1, none⟩)) H2_).trans ((aload_at gH2_H_n).trans (by kernel_rfl))) (veq_int _ _) (lowB_ptr (by omega)) ((by kernel_rfl : _ = val (aload T10 3 (.pointer (some ⟨H.n, 1, none⟩)) H2_) H2_).trans (val_to ((aload_at gH2_H_n).trans (by kernel_rfl)) (by kernel_rfl))) ?_
  refine aopsU_ask 16 (.string (dec rd)) 23 #[.int .i64 rd] (by kernel_rfl) (by kernel_rfl) (by kernel_rfl) (by kernel_rfl) (orc23 rd h1) ?_
  refine aopsU_go 1 (by kernel_rfl) ?_
  refine aopsU_look 18 (.int .i64 ra) (.pointer (some ⟨H.n, 2, none⟩)) (.tmp 17) H2_ (by kernel_rfl) (by kernel_rfl) (by kernel_rfl) (by kernel_rfl) (by kernel_rfl) (by kernel_rfl) ((by kernel_rfl : _ = aload T10 3 (.pointer (some ⟨H.n, 2, none⟩)) H2_).trans ((aload_at gH2_H_n).trans (by kernel_rfl))) (veq_int _ _) (lowB_ptr (by omega)) ((by kernel_rfl : _ = val (aload T10 3 (.pointer (some ⟨H.n, 2, none⟩)) H2_) H2_).trans (val_to ((aload_at gH2_H_n).trans (by kernel_rfl)) (by kernel_rfl))) ?_
  refine aopsU_ask 19 (.string (dec ra)) 23 #[.int .i64 ra] (by kernel_rfl) (by kernel_rfl) (by kernel_rfl) (by kernel_rfl) (orc23 ra h2) ?_
  refine aopsU_go 1 (by kernel_rfl) ?_
  refine aopsU_look 21 (.int .i64 rb) (.pointer (some ⟨H.n, 3, none⟩)) (.tmp 20) H2_ (by kernel_rfl) (by kernel_rfl) (by kernel_rfl) (by kernel_rfl) (by kernel_rfl) (by kernel_rfl) ((by kernel_rfl : _ = aload T10 3 (.pointer (some ⟨H.n, 3, none⟩)) H2_).trans ((aload_at gH2_H_n).trans (by kernel_rfl))) (veq_int _ _) (lowB_ptr (by omega)) ((by kernel_rfl : _ = val (aload T10 3 (.pointer (some ⟨H.n, 3, none⟩)) H2_) H2_).trans (val_to ((aload_at gH2_H_n).trans (by kernel_rfl)) (by kernel_rfl))) ?_
  refine aopsU_ask 22 (.string (dec rb)) 23 #[.int .i64 rb] (by kernel_rfl) (by kernel_rfl) (by kernel_rfl) (by kernel_rfl) (orc23 rb h3) ?_
  refine aopsU_go 1 (by kernel_rfl) ?_
  refine aopsU_look 24 (.int .u32 im) (.pointer (some ⟨H.n, 4, none⟩)) (.tmp 23) H2_ (by kernel_rfl) (by kernel_rfl) (by kernel_rfl) (by kernel_rfl) (by kernel_rfl) (by kernel_rfl) ((by kernel_rfl : _ = aload T10 22 (.pointer (some ⟨H.n, 4, none⟩)) H2_).trans ((aload_at gH2_H_n).trans (by kernel_rfl))) (veq_int _ _) (lowB_ptr (by omega)) ((by kernel_rfl : _ = val (aload T10 22 (.pointer (some ⟨H.n, 4, none⟩)) H2_) H2_).trans (val_to ((aload_at gH2_H_n).trans (by kernel_rfl)) (by kernel_rfl))) ?_
  refine aopsU_pt 25 (.int .u64 (IntKind.u64.wrap im)) (by kernel_rfl) (by kernel_rfl) (by kernel_rfl) (by kernel_rfl) (by kernel_rfl) ?_
  refine aopsU_see 25 (.int .u64 im) (see_int (x := IntKind.u64.wrap im) (by kernel_rfl) (wu64 rfl (by omega) (by omega))) ?_
  refine aopsU_ask 26 (.string (dec im)) 24 #[.int .u64 im, .int .i64 10] (by kernel_rfl) (by kernel_rfl) (by kernel_rfl) (by kernel_rfl) (orc24 im hi64) ?_
  obtain ⟨H3_, hH3_⟩ : ∃ x : Heap, x = H2_.push ⟨[Value.string ⟨⟨[106, 109, 112]⟩⟩, .string (dec rd), .string (dec ra), .string (dec rb), .string (dec im)], 9, false⟩ := ⟨_, rfl⟩
  have nH3_ : H3_.n = H2_.n + 1 := by rw [hH3_]; rfl
  refine aopsU_mk 27 (.slice (some ⟨H2_.n, 0, none⟩) 5 5) H2_ H3_ (by kernel_rfl) (by kernel_rfl) (by kernel_rfl) (by kernel_rfl) ((by kernel_rfl : _ = some (Res.val (.slice (some ⟨H2_.n, 0, none⟩) 5 5), H2_.push ⟨[Value.string ⟨⟨[106, 109, 112]⟩⟩, .string (dec rd), .string (dec ra), .string (dec rb), .string (dec im)], 9, false⟩)).trans (by rw [← hH3_])) (by kernel_rfl) (hH3_ ▸ Up.push (by omega) (Up.refl _) _) ?_
  refine aopsU_go 1 (by kernel_rfl) ?_
  refine aopsU_end (by kernel_rfl) (then_normal ?_)
  have gH3_H2__n : H3_.get (H2_.n) = some ⟨[Value.string ⟨⟨[106, 109, 112]⟩⟩, .string (dec rd), .string (dec ra), .string (dec rb), .string (dec im)], 9, false⟩ := by rw [hH3_]; exact (Heap.get_push _ _ _).trans (if_pos rfl)
  refine tw_code f13bcccc_eq ?_
  refine tw_code (congrArg (Code.seq · .ret) f13bcccca_eq) ?_
  refine tw_seq (tw_region (T := T10) progOk10 (joinF_ok (B := H2_.n) (c := 5) (xs := [nameV 18, dec rd, dec ra, dec rb, dec im]) (sep := ⟨⟨[32]⟩⟩) (e := 9) (by simp) (by simp) (by simp [unk]) (by rw [joinS_eq]; have := textR_size (op := 18) h1u h2u h3u hi; omega)) joinF_grows (by kernel_rfl) (join_step (B := H2_.n) (H := H3_) (by kernel_rfl) (s4 := (by kernel_rfl)) (x := joinS [nameV 18, dec rd, dec ra, dec rb, dec im] ⟨⟨[32]⟩⟩) (hx := joinF_eq (xs := [nameV 18, dec rd, dec ra, dec rb, dec im]) (gH3_H2__n.trans (by kernel_rfl)))) ?_)
  refine then_normal ?_
  exact tw_ret ⟨.string (joinS [nameV 18, dec rd, dec ra, dec rb, dec im] ⟨⟨[32]⟩⟩), by kernel_rfl, by rw [joinS_eq]; unfold textV; rw [hr]; rfl⟩
theorem f13_19 [Bs] [Tb] {rd ra rb im : Int} {H : Heap} (hr : rightV 19 rd ra rb im = true) (h1 : regV rd = true) (h2 : regV ra = true) (h3 : regV rb = true) (hi : u32B im = true) (w0 : World) : Tw Tryd.prog 30 w0 f13b (RetIs T10 Tryd.f13.results fun r _ => r = .string (textV 19 rd ra rb im)) ⟨initTm 0 #[.agg #[.int .i64 19, .int .i64 rd, .int .i64 ra, .int .i64 rb, .int .u32 im]], H⟩ := by
  have hi64 := u32_64 hi; have h1u := reg_u32 h1; have h2u := reg_u32 h2; have h3u := reg_u32 h3; have hi2 := hi; simp only [u32B, Bool.and_eq_true, decide_eq_true_eq] at hi2
  refine tw_code f13b_eq ?_
  refine tw_seq (tw_aw progOk10 (by kernel_rfl) ?_)
  refine aw_code f13ba_eq ?_
  refine aw_reg ?_
  obtain ⟨H1_, hH1_⟩ : ∃ x : Heap, x = H.push ⟨[Value.int .i64 19, .int .i64 rd, .int .i64 ra, .int .i64 rb, .int .u32 im], 24, false⟩ := ⟨_, rfl⟩
  have nH1_ : H1_.n = H.n + 1 := by rw [hH1_]; rfl
  refine aops_val 1 (.pointer (some ⟨H.n, 0, none⟩)) H1_ (by kernel_rfl) (by kernel_rfl) (by kernel_rfl) ((by kernel_rfl : _ = some (Res.val (.pointer (some ⟨H.n, 0, none⟩)), H.push ⟨[Value.int .i64 19, .int .i64 rd, .int .i64 ra, .int .i64 rb, .int .u32 im], 24, false⟩)).trans (by rw [← hH1_])) ?_
  refine aops_go 1 60 (by kernel_rfl) ?_
  refine aops_end (by kernel_rfl) (then_normal ?_)
  refine tw_code f13bc_eq ?_
  refine tw_seq (tw_aw progOk10 (by kernel_rfl) ?_)
  refine aw_code f13bca_eq ?_
  refine aw_then ?_
  refine aw_code f13bcaa_eq ?_
  refine aw_reg ?_
  have gH1_H_n : H1_.get (H.n) = some ⟨[Value.int .i64 19, .int .i64 rd, .int .i64 ra, .int .i64 rb, .int .u32 im], 24, false⟩ := by rw [hH1_]; exact (Heap.get_push _ _ _).trans (if_pos rfl)
  refine aops_val 5 (.agg #[.int .i64 19, .int .i64 rd, .int .i64 ra, .int .i64 rb, .int .u32 im]) H1_ (by kernel_rfl) (by kernel_rfl) (by kernel_rfl) ((by kernel_rfl : _ = val (aload T10 24 (.pointer (some ⟨H.n, 0, none⟩)) H1_) H1_).trans (val_of ((aload_at gH1_H_n).trans (by kernel_rfl)))) ?_
  refine aops_ask 6 (.bool true) 19 #[.agg #[.int .i64 19, .int .i64 rd, .int .i64 ra, .int .i64 rb, .int .u32 im]] (by kernel_rfl) (by kernel_rfl) (by kernel_rfl) (by kernel_rfl) (show some (Value.bool (rightV 19 rd ra rb im)) = _ by rw [hr]) ?_
  refine aops_go 1 60 (by kernel_rfl) ?_
  refine aops_end (by kernel_rfl) (then_normal ?_)
  refine aw_code f13bcac_eq ?_
  refine aw_cond (t := false) (by kernel_rfl) ?_
  refine aw_skip (then_normal ?_)
  refine tw_code f13bcc_eq ?_
  refine tw_seq (tw_aw progOk10 (by kernel_rfl) ?_)
  refine aw_code f13bcca_eq ?_
  refine aw_reg ?_
  obtain ⟨H2_, hH2_⟩ : ∃ x : Heap, x = H1_.push ⟨[Value.string ⟨⟨[110, 111, 112]⟩⟩, .string ⟨⟨[108, 105]⟩⟩, .string ⟨⟨[109, 111, 118]⟩⟩, .string ⟨⟨[97, 100, 100]⟩⟩, .string ⟨⟨[115, 117, 98]⟩⟩, .string ⟨⟨[97, 110, 100]⟩⟩, .string ⟨⟨[111, 114]⟩⟩, .string ⟨⟨[120, 111, 114]⟩⟩, .string ⟨⟨[115, 104, 108]⟩⟩, .string ⟨⟨[115, 104, 114]⟩⟩, .string ⟨⟨[109, 117, 108]⟩⟩, .string ⟨⟨[100, 105, 118]⟩⟩, .string ⟨⟨[108, 116, 117]⟩⟩, .string ⟨⟨[101, 113]⟩⟩, .string ⟨⟨[108, 100]⟩⟩, .string ⟨⟨[115, 116]⟩⟩, .string ⟨⟨[98, 101, 113, 122]⟩⟩, .string ⟨⟨[98, 110, 101, 122]⟩⟩, .string ⟨⟨[106, 109, 112]⟩⟩, .string ⟨⟨[101, 120, 105, 116]⟩⟩], 9, false⟩ := ⟨_, rfl⟩
  have nH2_ : H2_.n = H1_.n + 1 := by rw [hH2_]; rfl
  refine aops_val 8 (.slice (some ⟨H1_.n, 0, none⟩) 20 20) H2_ (by kernel_rfl) (by kernel_rfl) (by kernel_rfl) ((by kernel_rfl : _ = some (Res.val (.slice (some ⟨H1_.n, 0, none⟩) 20 20), H1_.push ⟨[Value.string ⟨⟨[110, 111, 112]⟩⟩, .string ⟨⟨[108, 105]⟩⟩, .string ⟨⟨[109, 111, 118]⟩⟩, .string ⟨⟨[97, 100, 100]⟩⟩, .string ⟨⟨[115, 117, 98]⟩⟩, .string ⟨⟨[97, 110, 100]⟩⟩, .string ⟨⟨[111, 114]⟩⟩, .string ⟨⟨[120, 111, 114]⟩⟩, .string ⟨⟨[115, 104, 108]⟩⟩, .string ⟨⟨[115, 104, 114]⟩⟩, .string ⟨⟨[109, 117, 108]⟩⟩, .string ⟨⟨[100, 105, 118]⟩⟩, .string ⟨⟨[108, 116, 117]⟩⟩, .string ⟨⟨[101, 113]⟩⟩, .string ⟨⟨[108, 100]⟩⟩, .string ⟨⟨[115, 116]⟩⟩, .string ⟨⟨[98, 101, 113, 122]⟩⟩, .string ⟨⟨[98, 110, 101, 122]⟩⟩, .string ⟨⟨[106, 109, 112]⟩⟩, .string ⟨⟨[101, 120, 105, 116]⟩⟩], 9, false⟩)).trans (by rw [← hH2_])) ?_
  refine aops_go 1 60 (by kernel_rfl) ?_
  refine aops_end (by kernel_rfl) (then_normal ?_)
  refine tw_code f13bccc_eq ?_
  refine tw_seq (tw_aw progOk10 (by kernel_rfl) ?_)
  refine aw_code f13bccca_eq ?_
  refine aw_drawU (H2_.n) ?_
  refine aopsU_go 2 (by kernel_rfl) ?_
  have gH2_H_n : H2_.get (H.n) = some ⟨[Value.int .i64 19, .int .i64 rd, .int .i64 ra, .int .i64 rb, .int .u32 im], 24, false⟩ := by rw [hH2_, Heap.get_push, if_neg (by omega)]; exact gH1_H_n
  refine aopsU_look 11 (.int .i64 19) (.pointer (some ⟨H.n, 0, none⟩)) (.tmp 10) H2_ (by kernel_rfl) (by kernel_rfl) (by kernel_rfl) (by kernel_rfl) (by kernel_rfl) (by kernel_rfl) ((by kernel_rfl : _ = aload T10 3 (.pointer (some ⟨H.n, 0, none⟩)) H2_).trans ((aload_at gH2_H_n).trans (by kernel_rfl))) (veq_int _ _) (lowB_ptr (by omega)) ((by kernel_rfl : _ = val (aload T10 3 (.pointer (some ⟨H.n, 0, none⟩)) H2_) H2_).trans (val_to ((aload_at gH2_H_n).trans (by kernel_rfl)) (by kernel_rfl))) ?_
  refine aopsU_go 1 (by kernel_rfl) ?_
  have gH2_H1__n : H2_.get (H1_.n) = some ⟨[Value.string ⟨⟨[110, 111, 112]⟩⟩, .string ⟨⟨[108, 105]⟩⟩, .string ⟨⟨[109, 111, 118]⟩⟩, .string ⟨⟨[97, 100, 100]⟩⟩, .string ⟨⟨[115, 117, 98]⟩⟩, .string ⟨⟨[97, 110, 100]⟩⟩, .string ⟨⟨[111, 114]⟩⟩, .string ⟨⟨[120, 111, 114]⟩⟩, .string ⟨⟨[115, 104, 108]⟩⟩, .string ⟨⟨[115, 104, 114]⟩⟩, .string ⟨⟨[109, 117, 108]⟩⟩, .string ⟨⟨[100, 105, 118]⟩⟩, .string ⟨⟨[108, 116, 117]⟩⟩, .string ⟨⟨[101, 113]⟩⟩, .string ⟨⟨[108, 100]⟩⟩, .string ⟨⟨[115, 116]⟩⟩, .string ⟨⟨[98, 101, 113, 122]⟩⟩, .string ⟨⟨[98, 110, 101, 122]⟩⟩, .string ⟨⟨[106, 109, 112]⟩⟩, .string ⟨⟨[101, 120, 105, 116]⟩⟩], 9, false⟩ := by rw [hH2_]; exact (Heap.get_push _ _ _).trans (if_pos rfl)
  refine aopsU_look 13 (.string ⟨⟨[101, 120, 105, 116]⟩⟩) (.pointer (some ⟨H1_.n, 19, none⟩)) (.tmp 12) H2_ (by kernel_rfl) (by kernel_rfl) (by kernel_rfl) (by kernel_rfl) (by kernel_rfl) (by kernel_rfl) ((by kernel_rfl : _ = aload T10 9 (.pointer (some ⟨H1_.n, 19, none⟩)) H2_).trans ((aload_at gH2_H1__n).trans (by kernel_rfl))) (by simp [veq, veqs, veq0]) (lowB_ptr (by omega)) ((by kernel_rfl : _ = val (aload T10 9 (.pointer (some ⟨H1_.n, 19, none⟩)) H2_) H2_).trans (val_to ((aload_at gH2_H1__n).trans (by kernel_rfl)) (by kernel_rfl))) ?_
  refine aopsU_go 1 (by kernel_rfl) ?_
  refine aopsU_look 15 (.int .i64 rd) (.pointer (some ⟨H.n, 1, none⟩)) (.tmp 14) H2_ (by kernel_rfl) (by kernel_rfl) (by kernel_rfl) (by kernel_rfl) (by kernel_rfl) (by kernel_rfl) ((by kernel_rfl : _ = aload T10 3 (.pointer (some ⟨H.n, 1, none⟩)) H2_).trans ((aload_at gH2_H_n).trans (by kernel_rfl))) (veq_int _ _) (lowB_ptr (by omega)) ((by kernel_rfl : _ = val (aload T10 3 (.pointer (some ⟨H.n, 1, none⟩)) H2_) H2_).trans (val_to ((aload_at gH2_H_n).trans (by kernel_rfl)) (by kernel_rfl))) ?_
  refine aopsU_ask 16 (.string (dec rd)) 23 #[.int .i64 rd] (by kernel_rfl) (by kernel_rfl) (by kernel_rfl) (by kernel_rfl) (orc23 rd h1) ?_
  refine aopsU_go 1 (by kernel_rfl) ?_
  refine aopsU_look 18 (.int .i64 ra) (.pointer (some ⟨H.n, 2, none⟩)) (.tmp 17) H2_ (by kernel_rfl) (by kernel_rfl) (by kernel_rfl) (by kernel_rfl) (by kernel_rfl) (by kernel_rfl) ((by kernel_rfl : _ = aload T10 3 (.pointer (some ⟨H.n, 2, none⟩)) H2_).trans ((aload_at gH2_H_n).trans (by kernel_rfl))) (veq_int _ _) (lowB_ptr (by omega)) ((by kernel_rfl : _ = val (aload T10 3 (.pointer (some ⟨H.n, 2, none⟩)) H2_) H2_).trans (val_to ((aload_at gH2_H_n).trans (by kernel_rfl)) (by kernel_rfl))) ?_
  refine aopsU_ask 19 (.string (dec ra)) 23 #[.int .i64 ra] (by kernel_rfl) (by kernel_rfl) (by kernel_rfl) (by kernel_rfl) (orc23 ra h2) ?_
  refine aopsU_go 1 (by kernel_rfl) ?_
  refine aopsU_look 21 (.int .i64 rb) (.pointer (some ⟨H.n, 3, none⟩)) (.tmp 20) H2_ (by kernel_rfl) (by kernel_rfl) (by kernel_rfl) (by kernel_rfl) (by kernel_rfl) (by kernel_rfl) ((by kernel_rfl : _ = aload T10 3 (.pointer (some ⟨H.n, 3, none⟩)) H2_).trans ((aload_at gH2_H_n).trans (by kernel_rfl))) (veq_int _ _) (lowB_ptr (by omega)) ((by kernel_rfl : _ = val (aload T10 3 (.pointer (some ⟨H.n, 3, none⟩)) H2_) H2_).trans (val_to ((aload_at gH2_H_n).trans (by kernel_rfl)) (by kernel_rfl))) ?_
  refine aopsU_ask 22 (.string (dec rb)) 23 #[.int .i64 rb] (by kernel_rfl) (by kernel_rfl) (by kernel_rfl) (by kernel_rfl) (orc23 rb h3) ?_
  refine aopsU_go 1 (by kernel_rfl) ?_
  refine aopsU_look 24 (.int .u32 im) (.pointer (some ⟨H.n, 4, none⟩)) (.tmp 23) H2_ (by kernel_rfl) (by kernel_rfl) (by kernel_rfl) (by kernel_rfl) (by kernel_rfl) (by kernel_rfl) ((by kernel_rfl : _ = aload T10 22 (.pointer (some ⟨H.n, 4, none⟩)) H2_).trans ((aload_at gH2_H_n).trans (by kernel_rfl))) (veq_int _ _) (lowB_ptr (by omega)) ((by kernel_rfl : _ = val (aload T10 22 (.pointer (some ⟨H.n, 4, none⟩)) H2_) H2_).trans (val_to ((aload_at gH2_H_n).trans (by kernel_rfl)) (by kernel_rfl))) ?_
  refine aopsU_pt 25 (.int .u64 (IntKind.u64.wrap im)) (by kernel_rfl) (by kernel_rfl) (by kernel_rfl) (by kernel_rfl) (by kernel_rfl) ?_
  refine aopsU_see 25 (.int .u64 im) (see_int (x := IntKind.u64.wrap im) (by kernel_rfl) (wu64 rfl (by omega) (by omega))) ?_
  refine aopsU_ask 26 (.string (dec im)) 24 #[.int .u64 im, .int .i64 10] (by kernel_rfl) (by kernel_rfl) (by kernel_rfl) (by kernel_rfl) (orc24 im hi64) ?_
  obtain ⟨H3_, hH3_⟩ : ∃ x : Heap, x = H2_.push ⟨[Value.string ⟨⟨[101, 120, 105, 116]⟩⟩, .string (dec rd), .string (dec ra), .string (dec rb), .string (dec im)], 9, false⟩ := ⟨_, rfl⟩
  have nH3_ : H3_.n = H2_.n + 1 := by rw [hH3_]; rfl
  refine aopsU_mk 27 (.slice (some ⟨H2_.n, 0, none⟩) 5 5) H2_ H3_ (by kernel_rfl) (by kernel_rfl) (by kernel_rfl) (by kernel_rfl) ((by kernel_rfl : _ = some (Res.val (.slice (some ⟨H2_.n, 0, none⟩) 5 5), H2_.push ⟨[Value.string ⟨⟨[101, 120, 105, 116]⟩⟩, .string (dec rd), .string (dec ra), .string (dec rb), .string (dec im)], 9, false⟩)).trans (by rw [← hH3_])) (by kernel_rfl) (hH3_ ▸ Up.push (by omega) (Up.refl _) _) ?_
  refine aopsU_go 1 (by kernel_rfl) ?_
  refine aopsU_end (by kernel_rfl) (then_normal ?_)
  have gH3_H2__n : H3_.get (H2_.n) = some ⟨[Value.string ⟨⟨[101, 120, 105, 116]⟩⟩, .string (dec rd), .string (dec ra), .string (dec rb), .string (dec im)], 9, false⟩ := by rw [hH3_]; exact (Heap.get_push _ _ _).trans (if_pos rfl)
  refine tw_code f13bcccc_eq ?_
  refine tw_code (congrArg (Code.seq · .ret) f13bcccca_eq) ?_
  refine tw_seq (tw_region (T := T10) progOk10 (joinF_ok (B := H2_.n) (c := 5) (xs := [nameV 19, dec rd, dec ra, dec rb, dec im]) (sep := ⟨⟨[32]⟩⟩) (e := 9) (by simp) (by simp) (by simp [unk]) (by rw [joinS_eq]; have := textR_size (op := 19) h1u h2u h3u hi; omega)) joinF_grows (by kernel_rfl) (join_step (B := H2_.n) (H := H3_) (by kernel_rfl) (s4 := (by kernel_rfl)) (x := joinS [nameV 19, dec rd, dec ra, dec rb, dec im] ⟨⟨[32]⟩⟩) (hx := joinF_eq (xs := [nameV 19, dec rd, dec ra, dec rb, dec im]) (gH3_H2__n.trans (by kernel_rfl)))) ?_)
  refine then_normal ?_
  exact tw_ret ⟨.string (joinS [nameV 19, dec rd, dec ra, dec rb, dec im] ⟨⟨[32]⟩⟩), by kernel_rfl, by rw [joinS_eq]; unfold textV; rw [hr]; rfl⟩
theorem f13_calls [Bs] [Tb] (op rd ra rb im : Int) (hi : u32B im = true) (w : World) (hw : OnBs w) : Calls Tryd.prog 13 #[.agg #[.int .i64 op, .int .i64 rd, .int .i64 ra, .int .i64 rb, .int .u32 im]] w fun e w' => e = .returned (.string (textV op rd ra rb im)) ∧ Quiet w w' := by
  cases hr : rightV op rd ra rb im
  · exact data_calls progOk10 rfl rfl (f13_no hr) w hw
  · obtain ⟨h0, h1, h2, h3⟩ := right_regs hr
    refine calls_of_twv progOk10 f13_fn f13_body rfl rfl hw fun w0 => ?_
    rcases inT_of h0 with rfl | rfl | rfl | rfl | rfl | rfl | rfl | rfl | rfl | rfl | rfl | rfl | rfl | rfl | rfl | rfl | rfl | rfl | rfl | rfl
    · exact f13_0 hr h1 h2 h3 hi w0
    · exact f13_1 hr h1 h2 h3 hi w0
    · exact f13_2 hr h1 h2 h3 hi w0
    · exact f13_3 hr h1 h2 h3 hi w0
    · exact f13_4 hr h1 h2 h3 hi w0
    · exact f13_5 hr h1 h2 h3 hi w0
    · exact f13_6 hr h1 h2 h3 hi w0
    · exact f13_7 hr h1 h2 h3 hi w0
    · exact f13_8 hr h1 h2 h3 hi w0
    · exact f13_9 hr h1 h2 h3 hi w0
    · exact f13_10 hr h1 h2 h3 hi w0
    · exact f13_11 hr h1 h2 h3 hi w0
    · exact f13_12 hr h1 h2 h3 hi w0
    · exact f13_13 hr h1 h2 h3 hi w0
    · exact f13_14 hr h1 h2 h3 hi w0
    · exact f13_15 hr h1 h2 h3 hi w0
    · exact f13_16 hr h1 h2 h3 hi w0
    · exact f13_17 hr h1 h2 h3 hi w0
    · exact f13_18 hr h1 h2 h3 hi w0
    · exact f13_19 hr h1 h2 h3 hi w0
def sp13 : List Value → Option Value
  | [.agg a] => match a.toList with
    | [.int .i64 op, .int .i64 rd, .int .i64 ra, .int .i64 rb, .int .u32 im] => bif u32B im then some (.string (textV op rd ra rb im)) else none
    | _ => none
  | _ => none
noncomputable def T11 : Tab := { T10 with orc := addOrc T10.orc 13 sp13 }
theorem progOk11 [Bs] [Tb] : ProgOk Tryd.prog T11 := progOk10.add 13 sp13 fun args v h => by
  unfold sp13 at h
  split at h
  · rename_i a
    split at h
    · rename_i op rd ra rb im e
      cases hb : (u32B im)
      · rw [hb] at h; cases h
      · rw [hb] at h; cases h
        have : a = #[.int .i64 op, .int .i64 rd, .int .i64 ra, .int .i64 rb, .int .u32 im] := Array.ext' e
        subst this
        exact ⟨rfl, rfl, fun w hw => f13_calls op rd ra rb im hb w hw⟩
    · cases h
  · cases h
theorem orc13 (op rd ra rb im : Int) (h : u32B im = true) : sp13 [.agg #[.int .i64 op, .int .i64 rd, .int .i64 ra, .int .i64 rb, .int .u32 im]] = some (.string (textV op rd ra rb im)) := by
  simp only [sp13, h, cond_true]
end Hc
end Go.Proofs.YtndjckfnggnddaaDoor
