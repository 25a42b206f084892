/- TopLoops answers true for every input, and leaves its arguments as they were: a guest that goes round a loop adds a number as often as it was told to. The package variables that it reads start as the program's text lays them (the card ties them). -/
import Derived.Test.YthmcpmdohmfeiaaGreatDoorLoJ
import Derived.Test.YthmcpmdohmfeiaaGreatDoorTf
namespace Go.Proofs.YthmcpmdohmfeiaaGreatDoor.topLoops
open Go Go.Ev Go.ChangeShapes Go.WideShapes Go.ChangeAt Go.RowKit Tp
set_option linter.unusedVariables false
theorem walk (a0 : Int) (h0 : (Lit.int .u32 a0).wf = true) (a1 : Int) (h1 : (Lit.int .u32 a1).wf = true) (W : World) (hL : laidMetH Tryz.prog laid1 W) :
    Calls Tryz.prog 10 #[.int .u32 a0, .int .u32 a1] W fun e w' => e = .returned (.bool true) ∧ Below W.heap.size W w' := by
  have u32 : ∀ x : Int, (Lit.int .u32 x).wf = true → 0 ≤ x ∧ x < 2 ^ 32 := fun x h => by simp [Lit.wf, IntKind.min, IntKind.max, IntKind.signed, IntKind.bits] at h; omega
  obtain ⟨g0, g1⟩ := u32 _ h0
  obtain ⟨q0, q1⟩ := u32 _ h1
  have e32 : ((2 : Int) ^ 32) = 4294967296 := rfl
  have hx : a0.toNat < 4294967296 := by omega
  have hb : a1.toNat < 4294967296 := by omega
  by_cases hz : sm a0.toNat (a1.toNat % 90) = 0
  · exact law_callsJ (ρ := loZ a0.toNat a1.toNat (a1.toNat % 90)) (G := loGZ) (loGZ_ok hx hb rfl hz) (WL := []) (fun _ h => by cases h) hL (a := loAJZ) (b := loBJZ) (loA_jobZ hx hb rfl hz) (loB_jobZ hx hb rfl hz)
      (by show List.length loA0 ≤ 32767; exact of_decide_eq_true (by kernel_rfl)) (by show List.length loB0 ≤ 32767; exact of_decide_eq_true (by kernel_rfl)) lo_runZ
      (by show (#[(wd 0 .u32 32).inst _, (wd 1 .u32 32).inst _] : Array Value) = _; rw [wd_inst g0 g1 rfl, wd_inst q0 q1 rfl]) (by intro x hx; simp at hx; rcases hx with rfl | rfl <;> rfl)
  · exact law_callsJ (ρ := loM a0.toNat a1.toNat (a1.toNat % 90)) (G := loGM) (loGM_ok hx hb rfl hz) (WL := []) (fun _ h => by cases h) hL (a := loAJM) (b := loBJM) (loA_jobM hx hb rfl hz) (loB_jobM hx hb rfl hz)
      (by show List.length loA0 ≤ 32767; exact of_decide_eq_true (by kernel_rfl)) (by show List.length loB0 ≤ 32767; exact of_decide_eq_true (by kernel_rfl)) lo_runM
      (by show (#[(wd 0 .u32 32).inst _, (wd 1 .u32 32).inst _] : Array Value) = _; rw [wd_inst g0 g1 rfl, wd_inst q0 q1 rfl]) (by intro x hx; simp at hx; rcases hx with rfl | rfl <;> rfl)
set_option maxRecDepth 100000 in
theorem lifted (os : Os) (started : os.Started) (H : Type) (enc : TypeId × Value → H) :
    ReturnsInHanded {} Tryz.checked os 10 .any (fun w args => (Rows.topLoopsSpec.pre enc Tryz.prog Tryz.f10 [] false w args ∧ laidMetH Tryz.prog laid1 w) ∧ sizedMet enc Tryz.prog Tryz.f10 (OpenSpec.ofChange Rows.topLoopsSpec) false w args)
      (Rows.topLoopsSpec.post enc Tryz.prog Tryz.f10 false true false false) := by
  refine returnsInHanded_of_change_and (C := Tryz.checked) (X := fun w _ => laidMetH Tryz.prog laid1 w) (fun _ _ _ hh h => h.of_heap hh) own started (by kernel_rfl) Tryz.func10
    (ChangeSpec.witness_shaped (enc := enc) (C := Tryz.checked) (os := os) (X := fun w _ => laidMetH Tryz.prog laid1 w) false (World.doorLaid Tryz.prog 400 os) #[.int .u32 0, .int .u32 0] 8 rfl (World.shaped_of_RefB (by kernel_rfl) (by kernel_rfl)) (by kernel_rfl) (by kernel_rfl) (by kernel_rfl) (door_met os _)) ?_
  intro W base args ds gs before hval0 hW _ _ hL _
  have hval : ∀ (j : Nat) t v, Tryz.f10.params[j]? = some t → args[j]? = some v → Value.okWide Tryz.prog W .any base t v := hval0
  have hW' := hW
  obtain ⟨p, q, hA0, hV, rfl, hfz, hnd⟩ := hW
  have hA : DataW.TrodAll enc Tryz.prog W 0 (fun _ => true) true Tryz.f10.params.toList args.toList ds p := hA0
  rw [Tryz.params10] at hA hval
  obtain ⟨v0, vs0, d0, ds0, p0, q0, hargs, rfl, rfl, h0, r0⟩ := trodAll_cons hA
  obtain ⟨v1, vs1, d1, ds1, p1, q1, rfl, rfl, rfl, h1, r1⟩ := trodAll_cons r0
  obtain ⟨rfl, rfl, rfl⟩ := trodAll_nil r1
  obtain rfl : args = #[v0, v1] := by cases args; simp_all
  obtain ⟨rfl, rfl⟩ := trodVars_none hV
  obtain ⟨a0, rfl, rfl, rfl, w0⟩ := open_int Tryz.underlying22 (hval 0 22 v0 rfl rfl) h0
  obtain ⟨a1, rfl, rfl, rfl, w1⟩ := open_int Tryz.underlying22 (hval 1 22 v1 rfl rfl) h1
  clear hA0 hval0
  simp only [List.append_nil] at hW'
  refine (walk a0 w0 a1 w1 W hL).mono fun e W' ⟨he, hb⟩ => ?_
  subst he
  exact ⟨_, rfl, post_of_below (pa := []) (pv := []) hW' (fun _ _ _ => (trodAll_cons_mk (shut_bool Tryz.underlying4 _) trodAll_mk0))
    (fun sp _ => (trodAll_cons_mk (shut_int Tryz.underlying22 w0) (trodAll_cons_mk (shut_int Tryz.underlying22 w1) trodAll_mk0))) (fun _ _ => rfl) rfl hb (ok_one (by kernel_rfl) rfl (okWide_bool_mk Tryz.underlying4 _))⟩
theorem fact0 : Rows.topLoopsRow.wf (OpenSpec.ofChange Rows.topLoopsSpec) = true := by kernel_rfl
theorem fact3 : Tryz.f10.params.all (Tryz.prog.readableRec ·) = true := by kernel_rfl
theorem fact4 : namedTie Tryz.prog Rows.topLoopsRow.named Rows.topLoopsSpec.vars = true := by kernel_rfl
theorem fact5 : (Rows.topLoopsRow.stops == []) = true := by kernel_rfl
theorem fact7 : (Rows.topLoopsRow.knobs == []) = true := by kernel_rfl
theorem fact9 : (Rows.topLoopsRow.inPlace == Tryz.prog.inPlace 10) = true := by kernel_rfl
theorem fact10 : (Rows.topLoopsRow.unfollowed == Tryz.prog.unfollowed 10) = true := by kernel_rfl
theorem fact11 : (Rows.topLoopsRow.recurses == Tryz.prog.recurses 10) = true := by kernel_rfl
theorem fact12 : (Rows.topLoopsRow.named == Tryz.prog.varsNamed 10) = true := by kernel_rfl
theorem fact13 : (Rows.topLoopsRow.maps == (Tryz.f10.params.toList ++ Rows.topLoopsSpec.plain.varTypes Tryz.prog).any (Tryz.prog.mapsRec ·)) = true := by kernel_rfl
theorem fact14 : (Rows.topLoopsRow.ifaces == (Tryz.f10.params.toList ++ Rows.topLoopsSpec.plain.varTypes Tryz.prog).any (Tryz.prog.ifacesRec ·)) = true := by kernel_rfl
theorem fact15 : (Rows.topLoopsRow.mapsOut == Tryz.prog.mapsAmong Tryz.f10.resultTypes.toList) = true := by kernel_rfl
theorem fact16 : (Rows.topLoopsRow.loops == (Tryz.f10.params.toList ++ Rows.topLoopsSpec.plain.varTypes Tryz.prog).any (Tryz.prog.loopsFrom ·)) = true := by kernel_rfl
theorem fact17 : (Rows.topLoopsRow.wideKeys == (Tryz.f10.params.toList ++ Rows.topLoopsSpec.plain.varTypes Tryz.prog ++ Tryz.f10.resultTypes.toList).any (Tryz.prog.wideKeysFrom ·)) = true := by kernel_rfl
theorem fact18 : Rows.topLoopsSpec.vars.all (Tryz.prog.varReadable ·) = true := by kernel_rfl
theorem fact19 : Tryz.f10.resultTypes.all (fun t => Tryz.prog.readableRec t && decide (t < Tryz.prog.types.size)) = true := by kernel_rfl
theorem fact20 : (Rows.topLoopsRow.ifacesOut == Tryz.f10.resultTypes.toList.any (Tryz.prog.ifacesRec ·)) = true := by kernel_rfl
theorem fact21 : (Rows.topLoopsRow.loopsOut == Tryz.f10.resultTypes.toList.any (Tryz.prog.loopsFrom ·)) = true := by kernel_rfl
theorem fact22 : (Rows.topLoopsRow.plainKeys == Tryz.prog.plainKeys) = true := by kernel_rfl
theorem fact23 : Rows.topLoopsRow.shortTexts.isNone = true := by kernel_rfl
theorem fact26 : (Rows.topLoopsRow.lifted == Tryz.prog.liftsFinal) = true := by kernel_rfl
theorem fact27 : (Tryz.prog.make == some Rows.topLoopsRow.make) = true := by kernel_rfl
theorem fact28 : (Rows.topLoopsRow.kinds == (if Rows.topLoopsRow.domain.isEmpty then [] else Tryz.f10.params.toList.map fun t => match Tryz.prog.underlying t with | some (.int k) => some k | _ => none)) = true := by kernel_rfl
theorem fact29 : (Rows.topLoopsRow.pinned == Rows.topLoopsRow.pinnedBy) = true := by kernel_rfl
theorem fact30 : (Rows.topLoopsRow.veiled == (Tryz.f10.params.toList ++ Rows.topLoopsSpec.plain.varTypes Tryz.prog ++ Tryz.f10.resultTypes.toList).any (Tryz.prog.veiledRec ·)) = true := by kernel_rfl
theorem fact31 : Rows.topLoopsRow.veiledFits Tryz.prog Tryz.f10.params.toList (Tryz.f10.params.toList ++ Rows.topLoopsSpec.plain.varTypes Tryz.prog ++ Tryz.f10.resultTypes.toList) = true := by kernel_rfl
set_option maxRecDepth 100000 in
theorem facts : joinedFacts Tryz.prog 10 Tryz.f10 Rows.topLoopsSpec Rows.topLoopsRow = true := by
  simp only [joinedFacts, Bool.and_eq_true]
  exact ⟨⟨⟨⟨⟨⟨⟨⟨⟨⟨⟨⟨⟨⟨⟨⟨⟨⟨⟨⟨⟨⟨⟨⟨⟨⟨⟨⟨⟨⟨⟨fact0, glob1⟩, glob2⟩, fact3⟩, fact4⟩, fact5⟩, glob6⟩, fact7⟩, glob8⟩, fact9⟩, fact10⟩, fact11⟩, fact12⟩, fact13⟩, fact14⟩, fact15⟩, fact16⟩, fact17⟩, fact18⟩, fact19⟩, fact20⟩, fact21⟩, fact22⟩, fact23⟩, glob24⟩, glob25⟩, fact26⟩, fact27⟩, fact28⟩, fact29⟩, fact30⟩, fact31⟩
theorem wrap : Tryz.f10.isWrapper Tryz.pinned.checked.prog Rows.topLoopsRow.wrapper Rows.topLoopsRow.mainSum := by
  unfold Func.isWrapper; first | (rw [if_pos (by decide +kernel)]; kernel_rfl) | (rw [if_neg (by decide +kernel)]; exact ⟨rfl, rfl⟩)
theorem over : Rows.TopLoopsSaid :=
  OpenClaim.holds_of_wide 10 Tryz.f10 rfl rfl rfl rfl rfl rfl rfl ⟨rfl, rfl, rfl, rfl, rfl⟩ rfl rfl rfl rfl rfl (by kernel_rfl) Tryz.func10 facts
    (of_decide_eq_true (by kernel_rfl)) wrap
    (fun os started H enc _ => lifted os started H enc)
theorem byText : Rows.topLoopsRow.wfByText (OpenSpec.ofChange Rows.topLoopsSpec) = true := by kernel_rfl
theorem goes : false = Rows.topLoopsRow.goesBy Tryz.prog := by kernel_rfl
theorem proved : Rows.TopLoopsCardSaid :=
  Claim7.holds_tied_plain_at .later [] [.data] true Rows.topLoopsCard.stood.harness false
    over (fun _ h => by cases h) byText (fun _ h => by cases h) topLoops_row_tie rfl ⟨rfl, rfl⟩ mainIs rfl
    (fun f fn hf hfn => by
      obtain rfl : f = 10 := Option.some.inj ((show Tryz.prog.funcNamed Tryz.f10.name = some 10 by kernel_rfl).symm.trans hf) |>.symm
      obtain rfl : fn = Tryz.f10 := (Option.some.inj (Tryz.func10.symm.trans hfn)).symm
      exact ⟨noLooks, fun j t ht => by
        rw [Tryz.params10] at ht
        have hm : t ∈ [22, 22] := by simpa using Array.mem_of_getElem? ht
        have hall : ([22, 22].all fun u => !Tryz.prog.wantsStandIn u) = true := by kernel_rfl
        exact (show Tryz.prog.wantsStandIn t = false by simpa using List.all_eq_true.1 hall t hm)⟩)
    goes
#print axioms proved
end Go.Proofs.YthmcpmdohmfeiaaGreatDoor.topLoops
