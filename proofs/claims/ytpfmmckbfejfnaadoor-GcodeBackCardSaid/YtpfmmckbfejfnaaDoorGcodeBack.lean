/- GcodeBack answers true for every input, and leaves its arguments as they were: instructions that are written one behind the other are read again, with anything behind them. The package variables that it reads start as the program's text lays them (the card ties them). -/
import Derived.Test.YtpfmmckbfejfnaaDoorGbk
import Derived.Test.YtpfmmckbfejfnaaDoorGmn
import Derived.WideKeyArgs
namespace Go.Proofs.YtpfmmckbfejfnaaDoor.gcodeBack
open Go Go.Ev Go.ChangeShapes Go.WideShapes Go.ChangeAt Go.RowKit Gc
set_option linter.unusedVariables false
set_option linter.unusedSimpArgs false
theorem walk (A1 A2 A3 : Option Addr) (c1 c2 c3 : Nat) (ls ns mo : List Int) (W : World) (hA1 : NumsAt W .i64 A1 ls) (hls : ∀ x ∈ ls, (Lit.int .i64 x).wf = true) (hc1 : c1 ≤ maxLen) (hA2 : NumsAt W .u32 A2 ns) (hns : ∀ x ∈ ns, (Lit.int .u32 x).wf = true) (hc2 : c2 ≤ maxLen) (hA3 : NumsAt W .u8 A3 mo) (hmo : ∀ x ∈ mo, (Lit.int .u8 x).wf = true) (hc3 : mo.length ≤ c3 ∧ c3 ≤ maxLen) (hL : laidMetH Tryd.prog laid3 W) :
    Calls Tryd.prog 6 #[.slice A1 ls.length c1, .slice A2 ns.length c2, .slice A3 mo.length c3] W fun e w' => e = .returned (.bool true) ∧ Below W.heap.size W w' := by
  letI : Bs := ⟨W, W.heap.size⟩
  haveI : Tb := tb_of (tab_of_laid hL)
  have i64 : ∀ x : Int, (Lit.int .i64 x).wf = true → i64B x = true := fun x h => by simp [Lit.wf, IntKind.min, IntKind.max, IntKind.signed, IntKind.bits] at h; simp [i64B]; omega
  have u32 : ∀ x : Int, (Lit.int .u32 x).wf = true → u32B x = true := fun x h => by simp [Lit.wf, IntKind.min, IntKind.max, IntKind.signed, IntKind.bits] at h; simp [u32B]; omega
  have hb : ∀ x ∈ mo, 0 ≤ x ∧ x < 256 := fun x hx => by have := bounds_u8 (hmo x hx); omega
  obtain ⟨a1, m1, H1, r1, _, _, _, v1, n1⟩ := (RoRep.start (onbs_self W)).nums (e := 3) (by kernel_rfl) hA1 hc1
  obtain ⟨a2, m2, H2, r2, le2, k1, k2, v2, n2⟩ := r1.nums (e := 22) (by kernel_rfl) hA2 hc2
  obtain ⟨a3, m3, H3, r3, le3, k3, k4, v3, n3⟩ := r2.nums (e := 5) (by kernel_rfl) hA3 hc3.2
  have hC : CapV a3 mo.length c3 := ⟨.inl ⟨hc3.1, by have := hc3.2; unfold maxLen at this; unfold Go.Ev.unk; omega⟩⟩
  exact (calls_ro progOk20 (back_run ((n1.keep k1 k2).keep k3 k4) (n2.keep k3 k4) (n3.byts hb) hC (fun x hx => i64 x (hls x hx)) (fun x hx => u32 x (hns x hx)) hb) rfl r3.wf r3.rep r3.ro (VRs.cons ((v1.mono le2).mono le3) (VRs.cons (v2.mono le3) (VRs.cons v3 VRs.nil)))).mono fun e w' he => ⟨he.1, below_of he.2⟩
theorem laidOut : laidOutB Tryd.prog = true := by kernel_rfl
set_option maxRecDepth 100000 in
theorem lifted (os : Os) (started : os.Started) (H : Type) (enc : TypeId × Value → H) :
    ReturnsInHanded {} Tryd.checked os 6 .any (fun w args => (Rows.gcodeBackSpec.pre enc Tryd.prog Tryd.f6 [] false w args ∧ laidMetH Tryd.prog laid3 w) ∧ sizedMet enc Tryd.prog Tryd.f6 (OpenSpec.ofChange Rows.gcodeBackSpec) false w args)
      (Rows.gcodeBackSpec.post enc Tryd.prog Tryd.f6 false true false false) := by
  refine returnsInHanded_of_change_and (C := Tryd.checked) (X := fun w _ => laidMetH Tryd.prog laid3 w) (fun _ _ _ hh h => h.of_heap hh) own started (by kernel_rfl) Tryd.func6
    (ChangeSpec.witness_shaped (enc := enc) (C := Tryd.checked) (os := os) (X := fun w _ => laidMetH Tryd.prog laid3 w) false (World.doorLaid Tryd.prog 400 os) #[.slice none 0 0, .slice none 0 0, .slice none 0 0] 8 rfl (World.shaped_of_RefB (by kernel_rfl) (by kernel_rfl)) (by kernel_rfl) (by kernel_rfl) (by kernel_rfl) (door_met os _)) ?_
  intro W base args ds gs before hval0 hW _ _ hL _
  have hval : ∀ (j : Nat) t v, Tryd.f6.params[j]? = some t → args[j]? = some v → Value.okWide Tryd.prog W .any base t v := hval0
  have hW' := hW
  obtain ⟨p, q, hA0, hV, rfl, hfz, hnd⟩ := hW
  have hA : DataW.TrodAll enc Tryd.prog W 0 (fun _ => true) true Tryd.f6.params.toList args.toList ds p := hA0
  rw [Tryd.params6] at hA hval
  obtain ⟨v0, vs0, d0, ds0, p0, q0, hargs, rfl, rfl, h0, r0⟩ := trodAll_cons hA
  obtain ⟨v1, vs1, d1, ds1, p1, q1, rfl, rfl, rfl, h1, r1⟩ := trodAll_cons r0
  obtain ⟨v2, vs2, d2, ds2, p2, q2, rfl, rfl, rfl, h2, r2⟩ := trodAll_cons r1
  obtain ⟨rfl, rfl, rfl⟩ := trodAll_nil r2
  obtain rfl : args = #[v0, v1, v2] := by cases args; simp_all
  obtain ⟨rfl, rfl⟩ := trodVars_none hV
  clear hA0 hval0
  simp only [List.append_nil] at hW'
  obtain ⟨A1, c1, ls, rfl, hA1, hls, hc1⟩ := open_nums Tryd.underlying39 Tryd.underlying3 (by kernel_rfl) (hval 0 39 v0 rfl rfl) h0
  obtain ⟨A2, c2, ns, rfl, hA2, hns, hc2⟩ := open_nums Tryd.underlying23 Tryd.underlying22 (by kernel_rfl) (hval 1 23 v1 rfl rfl) h1
  obtain ⟨A3, c3, mo, rfl, hA3, hmo, hc3⟩ := open_nums Tryd.underlying27 Tryd.underlying5 (by kernel_rfl) (hval 2 27 v2 rfl rfl) h2
  have hlt0 : ∀ x ∈ p0, x.block < W.heap.size := fun x hx => hW'.lt x (by simp [hx])
  have hlt1 : ∀ x ∈ p1, x.block < W.heap.size := fun x hx => hW'.lt x (by simp [hx])
  have hlt2 : ∀ x ∈ p2, x.block < W.heap.size := fun x hx => hW'.lt x (by simp [hx])
  refine (walk A1 A2 A3 c1 c2 c3 ls ns mo W hA1 hls hc1.2 hA2 hns hc2.2 hA3 hmo hc3 hL).mono fun e W' ⟨he, hbl⟩ => ?_
  subst he
  exact ⟨_, rfl, post_of_below (pv := []) hW' (fun _ _ _ => (trodAll_cons_mk (shut_bool Tryd.underlying4 _) trodAll_mk0))
    (fun sp hsp => (trodAll_cons_mk (WideElems.Trod_stays laidOut (by kernel_rfl) (of_decide_eq_true (by kernel_rfl)) h0 (fun x hx => hbl.same (hlt0 x hx)) (fun x hx => hsp x (by simp [hx]))) (trodAll_cons_mk (WideElems.Trod_stays laidOut (by kernel_rfl) (of_decide_eq_true (by kernel_rfl)) h1 (fun x hx => hbl.same (hlt1 x hx)) (fun x hx => hsp x (by simp [hx]))) (trodAll_cons_mk (WideElems.Trod_stays laidOut (by kernel_rfl) (of_decide_eq_true (by kernel_rfl)) h2 (fun x hx => hbl.same (hlt2 x hx)) (fun x hx => hsp x (by simp [hx]))) trodAll_mk0)))) (fun _ _ => rfl) (by simp) hbl (ok_one (by kernel_rfl) rfl (okWide_bool_mk Tryd.underlying4 _))⟩
theorem over : Rows.GcodeBackSaid :=
  OpenClaim.holds_of_wide 6 Tryd.f6 rfl rfl rfl rfl rfl rfl rfl ⟨rfl, rfl, rfl, rfl, rfl⟩ rfl rfl rfl rfl rfl (by kernel_rfl) Tryd.func6 (by kernel_rfl)
    (of_decide_eq_true (by kernel_rfl)) (by unfold Func.isWrapper; first | (rw [if_pos (by decide +kernel)]; kernel_rfl) | (rw [if_neg (by decide +kernel)]; exact ⟨rfl, rfl⟩))
    (fun os started H enc _ => lifted os started H enc)
theorem proved : Rows.GcodeBackCardSaid :=
  Claim7.holds_tied_plain_at .later [] [.data, .data, .data] true Rows.gcodeBackCard.stood.harness false
    over (fun _ h => by cases h) (by kernel_rfl) (fun _ h => by cases h) gcodeBack_row_tie rfl ⟨rfl, rfl⟩ (by kernel_rfl) rfl
    (fun f fn hf hfn => by
      obtain rfl : f = 6 := Option.some.inj ((show Tryd.prog.funcNamed Tryd.f6.name = some 6 by kernel_rfl).symm.trans hf) |>.symm
      obtain rfl : fn = Tryd.f6 := (Option.some.inj (Tryd.func6.symm.trans hfn)).symm
      exact ⟨by kernel_rfl, fun j t ht => by
        rw [Tryd.params6] at ht
        have hm : t ∈ [39, 23, 27] := by simpa using Array.mem_of_getElem? ht
        have hall : ([39, 23, 27].all fun u => !Tryd.prog.wantsStandIn u) = true := by kernel_rfl
        exact (show Tryd.prog.wantsStandIn t = false by simpa using List.all_eq_true.1 hall t hm)⟩)
    (by kernel_rfl)
#print axioms proved
end Go.Proofs.YtpfmmckbfejfnaaDoor.gcodeBack
