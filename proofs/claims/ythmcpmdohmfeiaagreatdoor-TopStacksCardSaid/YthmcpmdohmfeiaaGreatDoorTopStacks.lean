/- TopStacks answers true for every input, and leaves its arguments as they were: a guest that pushes one word too many, or takes one that is not there, is told so, and has what it had. The package variables that it reads start as the program's text lays them (the card ties them). -/
import Derived.Test.YthmcpmdohmfeiaaGreatDoorStA
import Derived.Test.YthmcpmdohmfeiaaGreatDoorStB
import Derived.Test.YthmcpmdohmfeiaaGreatDoorStC
import Derived.Test.YthmcpmdohmfeiaaGreatDoorStD
import Derived.Test.YthmcpmdohmfeiaaGreatDoorStE
import Derived.Test.YthmcpmdohmfeiaaGreatDoorStF
import Derived.Test.YthmcpmdohmfeiaaGreatDoorStG
import Derived.Test.YthmcpmdohmfeiaaGreatDoorStH
import Derived.Test.YthmcpmdohmfeiaaGreatDoorTf
namespace Go.Proofs.YthmcpmdohmfeiaaGreatDoor.topStacks
open Go Go.Ev Go.ChangeShapes Go.WideShapes Go.ChangeAt Go.RowKit Tp
set_option linter.unusedVariables false
theorem walk (a0 : Int) (h0 : (Lit.int .i64 a0).wf = true) (a1 : Bool) (W : World) (hL : laidMetH Tryz.prog laid1 W) :
    Calls Tryz.prog 13 #[.int .i64 a0, .bool a1] W fun e w' => e = .returned (.bool true) ∧ Below W.heap.size W w' := by
  obtain ⟨z, hz⟩ := zz_of a0
  have hB : inB a0 0 20 = true := by
    simp [Lit.wf, IntKind.min, IntKind.max, IntKind.signed, IntKind.bits] at h0
    simp [inB]; omega
  have go : ∀ (r : Nat) (uv : SV), (∀ ρ, uv.inst ρ = .bool a1) → 0 + a0 % 21 = (r : Int) → lawRun [] [(2, 0, 20, r)] 13 [.y .i64 2, uv] = tt → Calls Tryz.prog 13 #[.int .i64 a0, .bool a1] W fun e w' => e = .returned (.bool true) ∧ Below W.heap.size W w' := fun r uv hu hr hrun =>
    law_calls (ρ := fun i => match i with | _ => z) (G := []) (fun _ h => by cases h) (WL := [(2, 0, 20, r)]) (fun p hp => by
        rw [List.mem_singleton] at hp
        subst hp
        refine ⟨by show inB (zz z) 0 20 = true; rw [hz]; exact hB, ?_⟩
        show (0 : Int) + zz z % (20 - 0 + 1) = r
        rw [hz]; omega) hrun
      (by show (#[(SV.y .i64 2).inst _, uv.inst _] : Array Value) = _; rw [y_inst hz, hu])
      (by intro x hx; simp at hx; rcases hx with rfl | rfl <;> rfl) W
  have hk : 0 + a0 % 21 = 0 ∨ 0 + a0 % 21 = 1 ∨ 0 + a0 % 21 = 2 ∨ 0 + a0 % 21 = 3 ∨ 0 + a0 % 21 = 4 ∨ 0 + a0 % 21 = 5 ∨ 0 + a0 % 21 = 6 ∨ 0 + a0 % 21 = 7 ∨ 0 + a0 % 21 = 8 ∨ 0 + a0 % 21 = 9 ∨ 0 + a0 % 21 = 10 ∨ 0 + a0 % 21 = 11 ∨ 0 + a0 % 21 = 12 ∨ 0 + a0 % 21 = 13 ∨ 0 + a0 % 21 = 14 ∨ 0 + a0 % 21 = 15 ∨ 0 + a0 % 21 = 16 ∨ 0 + a0 % 21 = 17 ∨ 0 + a0 % 21 = 18 ∨ 0 + a0 % 21 = 19 ∨ 0 + a0 % 21 = 20 := by omega
  cases a1
  · rcases hk with h | h | h | h | h | h | h | h | h | h | h | h | h | h | h | h | h | h | h | h | h
    · exact go 0 .f (fun _ => rfl) h stacks_run0_0
    · exact go 1 .f (fun _ => rfl) h stacks_run1_0
    · exact go 2 .f (fun _ => rfl) h stacks_run2_0
    · exact go 3 .f (fun _ => rfl) h stacks_run3_0
    · exact go 4 .f (fun _ => rfl) h stacks_run4_0
    · exact go 5 .f (fun _ => rfl) h stacks_run5_0
    · exact go 6 .f (fun _ => rfl) h stacks_run6_0
    · exact go 7 .f (fun _ => rfl) h stacks_run7_0
    · exact go 8 .f (fun _ => rfl) h stacks_run8_0
    · exact go 9 .f (fun _ => rfl) h stacks_run9_0
    · exact go 10 .f (fun _ => rfl) h stacks_run10_0
    · exact go 11 .f (fun _ => rfl) h stacks_run11_0
    · exact go 12 .f (fun _ => rfl) h stacks_run12_0
    · exact go 13 .f (fun _ => rfl) h stacks_run13_0
    · exact go 14 .f (fun _ => rfl) h stacks_run14_0
    · exact go 15 .f (fun _ => rfl) h stacks_run15_0
    · exact go 16 .f (fun _ => rfl) h stacks_run16_0
    · exact go 17 .f (fun _ => rfl) h stacks_run17_0
    · exact go 18 .f (fun _ => rfl) h stacks_run18_0
    · exact go 19 .f (fun _ => rfl) h stacks_run19_0
    · exact go 20 .f (fun _ => rfl) h stacks_run20_0
  · rcases hk with h | h | h | h | h | h | h | h | h | h | h | h | h | h | h | h | h | h | h | h | h
    · exact go 0 .t (fun _ => rfl) h stacks_run0_1
    · exact go 1 .t (fun _ => rfl) h stacks_run1_1
    · exact go 2 .t (fun _ => rfl) h stacks_run2_1
    · exact go 3 .t (fun _ => rfl) h stacks_run3_1
    · exact go 4 .t (fun _ => rfl) h stacks_run4_1
    · exact go 5 .t (fun _ => rfl) h stacks_run5_1
    · exact go 6 .t (fun _ => rfl) h stacks_run6_1
    · exact go 7 .t (fun _ => rfl) h stacks_run7_1
    · exact go 8 .t (fun _ => rfl) h stacks_run8_1
    · exact go 9 .t (fun _ => rfl) h stacks_run9_1
    · exact go 10 .t (fun _ => rfl) h stacks_run10_1
    · exact go 11 .t (fun _ => rfl) h stacks_run11_1
    · exact go 12 .t (fun _ => rfl) h stacks_run12_1
    · exact go 13 .t (fun _ => rfl) h stacks_run13_1
    · exact go 14 .t (fun _ => rfl) h stacks_run14_1
    · exact go 15 .t (fun _ => rfl) h stacks_run15_1
    · exact go 16 .t (fun _ => rfl) h stacks_run16_1
    · exact go 17 .t (fun _ => rfl) h stacks_run17_1
    · exact go 18 .t (fun _ => rfl) h stacks_run18_1
    · exact go 19 .t (fun _ => rfl) h stacks_run19_1
    · exact go 20 .t (fun _ => rfl) h stacks_run20_1
set_option maxRecDepth 100000 in
theorem lifted (os : Os) (started : os.Started) (H : Type) (enc : TypeId × Value → H) :
    ReturnsInHanded {} Tryz.checked os 13 .any (fun w args => (Rows.topStacksSpec.pre enc Tryz.prog Tryz.f13 [] false w args ∧ laidMetH Tryz.prog laid1 w) ∧ sizedMet enc Tryz.prog Tryz.f13 (OpenSpec.ofChange Rows.topStacksSpec) false w args)
      (Rows.topStacksSpec.post enc Tryz.prog Tryz.f13 false true false false) := by
  refine returnsInHanded_of_change_and (C := Tryz.checked) (X := fun w _ => laidMetH Tryz.prog laid1 w) (fun _ _ _ hh h => h.of_heap hh) own started (by kernel_rfl) Tryz.func13
    (ChangeSpec.witness_shaped (enc := enc) (C := Tryz.checked) (os := os) (X := fun w _ => laidMetH Tryz.prog laid1 w) false (World.doorLaid Tryz.prog 400 os) #[.int .i64 0, .bool false] 8 rfl (World.shaped_of_RefB (by kernel_rfl) (by kernel_rfl)) (by kernel_rfl) (by kernel_rfl) (by kernel_rfl) (door_met os _)) ?_
  intro W base args ds gs before hval0 hW _ _ hL _
  have hval : ∀ (j : Nat) t v, Tryz.f13.params[j]? = some t → args[j]? = some v → Value.okWide Tryz.prog W .any base t v := hval0
  have hW' := hW
  obtain ⟨p, q, hA0, hV, rfl, hfz, hnd⟩ := hW
  have hA : DataW.TrodAll enc Tryz.prog W 0 (fun _ => true) true Tryz.f13.params.toList args.toList ds p := hA0
  rw [Tryz.params13] at hA hval
  obtain ⟨v0, vs0, d0, ds0, p0, q0, hargs, rfl, rfl, h0, r0⟩ := trodAll_cons hA
  obtain ⟨v1, vs1, d1, ds1, p1, q1, rfl, rfl, rfl, h1, r1⟩ := trodAll_cons r0
  obtain ⟨rfl, rfl, rfl⟩ := trodAll_nil r1
  obtain rfl : args = #[v0, v1] := by cases args; simp_all
  obtain ⟨rfl, rfl⟩ := trodVars_none hV
  obtain ⟨a0, rfl, rfl, rfl, w0⟩ := open_int Tryz.underlying3 (hval 0 3 v0 rfl rfl) h0
  obtain ⟨a1, rfl, rfl, rfl⟩ := open_bool Tryz.underlying4 (hval 1 4 v1 rfl rfl) h1
  clear hA0 hval0
  simp only [List.append_nil] at hW'
  refine (walk a0 w0 a1 W hL).mono fun e W' ⟨he, hb⟩ => ?_
  subst he
  exact ⟨_, rfl, post_of_below (pa := []) (pv := []) hW' (fun _ _ _ => (trodAll_cons_mk (shut_bool Tryz.underlying4 _) trodAll_mk0))
    (fun sp _ => (trodAll_cons_mk (shut_int Tryz.underlying3 w0) (trodAll_cons_mk (shut_bool Tryz.underlying4 _) trodAll_mk0))) (fun _ _ => rfl) rfl hb (ok_one (by kernel_rfl) rfl (okWide_bool_mk Tryz.underlying4 _))⟩
theorem fact0 : Rows.topStacksRow.wf (OpenSpec.ofChange Rows.topStacksSpec) = true := by kernel_rfl
theorem fact3 : Tryz.f13.params.all (Tryz.prog.readableRec ·) = true := by kernel_rfl
theorem fact4 : namedTie Tryz.prog Rows.topStacksRow.named Rows.topStacksSpec.vars = true := by kernel_rfl
theorem fact5 : (Rows.topStacksRow.stops == []) = true := by kernel_rfl
theorem fact7 : (Rows.topStacksRow.knobs == []) = true := by kernel_rfl
theorem fact9 : (Rows.topStacksRow.inPlace == Tryz.prog.inPlace 13) = true := by kernel_rfl
theorem fact10 : (Rows.topStacksRow.unfollowed == Tryz.prog.unfollowed 13) = true := by kernel_rfl
theorem fact11 : (Rows.topStacksRow.recurses == Tryz.prog.recurses 13) = true := by kernel_rfl
theorem fact12 : (Rows.topStacksRow.named == Tryz.prog.varsNamed 13) = true := by kernel_rfl
theorem fact13 : (Rows.topStacksRow.maps == (Tryz.f13.params.toList ++ Rows.topStacksSpec.plain.varTypes Tryz.prog).any (Tryz.prog.mapsRec ·)) = true := by kernel_rfl
theorem fact14 : (Rows.topStacksRow.ifaces == (Tryz.f13.params.toList ++ Rows.topStacksSpec.plain.varTypes Tryz.prog).any (Tryz.prog.ifacesRec ·)) = true := by kernel_rfl
theorem fact15 : (Rows.topStacksRow.mapsOut == Tryz.prog.mapsAmong Tryz.f13.resultTypes.toList) = true := by kernel_rfl
theorem fact16 : (Rows.topStacksRow.loops == (Tryz.f13.params.toList ++ Rows.topStacksSpec.plain.varTypes Tryz.prog).any (Tryz.prog.loopsFrom ·)) = true := by kernel_rfl
theorem fact17 : (Rows.topStacksRow.wideKeys == (Tryz.f13.params.toList ++ Rows.topStacksSpec.plain.varTypes Tryz.prog ++ Tryz.f13.resultTypes.toList).any (Tryz.prog.wideKeysFrom ·)) = true := by kernel_rfl
theorem fact18 : Rows.topStacksSpec.vars.all (Tryz.prog.varReadable ·) = true := by kernel_rfl
theorem fact19 : Tryz.f13.resultTypes.all (fun t => Tryz.prog.readableRec t && decide (t < Tryz.prog.types.size)) = true := by kernel_rfl
theorem fact20 : (Rows.topStacksRow.ifacesOut == Tryz.f13.resultTypes.toList.any (Tryz.prog.ifacesRec ·)) = true := by kernel_rfl
theorem fact21 : (Rows.topStacksRow.loopsOut == Tryz.f13.resultTypes.toList.any (Tryz.prog.loopsFrom ·)) = true := by kernel_rfl
theorem fact22 : (Rows.topStacksRow.plainKeys == Tryz.prog.plainKeys) = true := by kernel_rfl
theorem fact23 : Rows.topStacksRow.shortTexts.isNone = true := by kernel_rfl
theorem fact26 : (Rows.topStacksRow.lifted == Tryz.prog.liftsFinal) = true := by kernel_rfl
theorem fact27 : (Tryz.prog.make == some Rows.topStacksRow.make) = true := by kernel_rfl
theorem fact28 : (Rows.topStacksRow.kinds == (if Rows.topStacksRow.domain.isEmpty then [] else Tryz.f13.params.toList.map fun t => match Tryz.prog.underlying t with | some (.int k) => some k | _ => none)) = true := by kernel_rfl
theorem fact29 : (Rows.topStacksRow.pinned == Rows.topStacksRow.pinnedBy) = true := by kernel_rfl
theorem fact30 : (Rows.topStacksRow.veiled == (Tryz.f13.params.toList ++ Rows.topStacksSpec.plain.varTypes Tryz.prog ++ Tryz.f13.resultTypes.toList).any (Tryz.prog.veiledRec ·)) = true := by kernel_rfl
theorem fact31 : Rows.topStacksRow.veiledFits Tryz.prog Tryz.f13.params.toList (Tryz.f13.params.toList ++ Rows.topStacksSpec.plain.varTypes Tryz.prog ++ Tryz.f13.resultTypes.toList) = true := by kernel_rfl
set_option maxRecDepth 100000 in
theorem facts : joinedFacts Tryz.prog 13 Tryz.f13 Rows.topStacksSpec Rows.topStacksRow = true := by
  simp only [joinedFacts, Bool.and_eq_true]
  exact ⟨⟨⟨⟨⟨⟨⟨⟨⟨⟨⟨⟨⟨⟨⟨⟨⟨⟨⟨⟨⟨⟨⟨⟨⟨⟨⟨⟨⟨⟨⟨fact0, glob1⟩, glob2⟩, fact3⟩, fact4⟩, fact5⟩, glob6⟩, fact7⟩, glob8⟩, fact9⟩, fact10⟩, fact11⟩, fact12⟩, fact13⟩, fact14⟩, fact15⟩, fact16⟩, fact17⟩, fact18⟩, fact19⟩, fact20⟩, fact21⟩, fact22⟩, fact23⟩, glob24⟩, glob25⟩, fact26⟩, fact27⟩, fact28⟩, fact29⟩, fact30⟩, fact31⟩
theorem wrap : Tryz.f13.isWrapper Tryz.pinned.checked.prog Rows.topStacksRow.wrapper Rows.topStacksRow.mainSum := by
  unfold Func.isWrapper; first | (rw [if_pos (by decide +kernel)]; kernel_rfl) | (rw [if_neg (by decide +kernel)]; exact ⟨rfl, rfl⟩)
theorem over : Rows.TopStacksSaid :=
  OpenClaim.holds_of_wide 13 Tryz.f13 rfl rfl rfl rfl rfl rfl rfl ⟨rfl, rfl, rfl, rfl, rfl⟩ rfl rfl rfl rfl rfl (by kernel_rfl) Tryz.func13 facts
    (of_decide_eq_true (by kernel_rfl)) wrap
    (fun os started H enc _ => lifted os started H enc)
theorem byText : Rows.topStacksRow.wfByText (OpenSpec.ofChange Rows.topStacksSpec) = true := by kernel_rfl
theorem goes : false = Rows.topStacksRow.goesBy Tryz.prog := by kernel_rfl
theorem proved : Rows.TopStacksCardSaid :=
  Claim7.holds_tied_plain_at .later [] [.data] true Rows.topStacksCard.stood.harness false
    over (fun _ h => by cases h) byText (fun _ h => by cases h) topStacks_row_tie rfl ⟨rfl, rfl⟩ mainIs rfl
    (fun f fn hf hfn => by
      obtain rfl : f = 13 := Option.some.inj ((show Tryz.prog.funcNamed Tryz.f13.name = some 13 by kernel_rfl).symm.trans hf) |>.symm
      obtain rfl : fn = Tryz.f13 := (Option.some.inj (Tryz.func13.symm.trans hfn)).symm
      exact ⟨noLooks, fun j t ht => by
        rw [Tryz.params13] at ht
        have hm : t ∈ [3, 4] := by simpa using Array.mem_of_getElem? ht
        have hall : ([3, 4].all fun u => !Tryz.prog.wantsStandIn u) = true := by kernel_rfl
        exact (show Tryz.prog.wantsStandIn t = false by simpa using List.all_eq_true.1 hall t hm)⟩)
    goes
#print axioms proved
end Go.Proofs.YthmcpmdohmfeiaaGreatDoor.topStacks
