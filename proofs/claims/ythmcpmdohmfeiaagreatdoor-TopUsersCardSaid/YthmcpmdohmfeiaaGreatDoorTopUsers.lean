/- TopUsers answers true for every input, and leaves its arguments as they were: a user can not do what is the system's: it is told with Privilege, and the system goes on. The package variables that it reads start as the program's text lays them (the card ties them). -/
import Derived.Test.YthmcpmdohmfeiaaGreatDoorUsA
import Derived.Test.YthmcpmdohmfeiaaGreatDoorUsB
import Derived.Test.YthmcpmdohmfeiaaGreatDoorUsC
import Derived.Test.YthmcpmdohmfeiaaGreatDoorTf
namespace Go.Proofs.YthmcpmdohmfeiaaGreatDoor.topUsers
open Go Go.Ev Go.ChangeShapes Go.WideShapes Go.ChangeAt Go.RowKit Tp
set_option linter.unusedVariables false
theorem walk (a0 : Int) (h0 : (Lit.int .i64 a0).wf = true) (a1 : Int) (h1 : (Lit.int .u32 a1).wf = true) (W : World) (hL : laidMetH Tryz.prog laid1 W) :
    Calls Tryz.prog 8 #[.int .i64 a0, .int .u32 a1] W fun e w' => e = .returned (.bool true) ∧ Below W.heap.size W w' := by
  have u32 : ∀ x : Int, (Lit.int .u32 x).wf = true → 0 ≤ x ∧ x < 2 ^ 32 := fun x h => by simp [Lit.wf, IntKind.min, IntKind.max, IntKind.signed, IntKind.bits] at h; omega
  obtain ⟨z, hz⟩ := zz_of a0
  have hB : inB a0 0 4 = true := by
    simp [Lit.wf, IntKind.min, IntKind.max, IntKind.signed, IntKind.bits] at h0
    simp [inB]; omega
  have go : ∀ r : Nat, 0 + a0 % 5 = (r : Int) → lawRun [] [(2, 0, 4, r)] 8 [.y .i64 2, wd 0 .u32 32] = tt → Calls Tryz.prog 8 #[.int .i64 a0, .int .u32 a1] W fun e w' => e = .returned (.bool true) ∧ Below W.heap.size W w' := fun r hr hrun =>
    law_calls (ρ := fun i => match i with | 0 => a1.toNat | _ => z) (G := []) (fun _ h => by cases h) (WL := [(2, 0, 4, r)]) (fun p hp => by
        rw [List.mem_singleton] at hp
        subst hp
        refine ⟨by show inB (zz z) 0 4 = true; rw [hz]; exact hB, ?_⟩
        show (0 : Int) + zz z % (4 - 0 + 1) = r
        rw [hz]; omega) hrun
      (by show (#[(SV.y .i64 2).inst _, (wd 0 .u32 32).inst _] : Array Value) = _; rw [y_inst hz, wd_inst (u32 _ h1).1 (u32 _ h1).2 rfl])
      (by intro x hx; simp at hx; rcases hx with rfl | rfl <;> rfl) W
  have hk : 0 + a0 % 5 = 0 ∨ 0 + a0 % 5 = 1 ∨ 0 + a0 % 5 = 2 ∨ 0 + a0 % 5 = 3 ∨ 0 + a0 % 5 = 4 := by omega
  rcases hk with h | h | h | h | h
  · exact go 0 h users_run0
  · exact go 1 h users_run1
  · exact go 2 h users_run2
  · exact go 3 h users_run3
  · exact go 4 h users_run4
set_option maxRecDepth 100000 in
theorem lifted (os : Os) (started : os.Started) (H : Type) (enc : TypeId × Value → H) :
    ReturnsInHanded {} Tryz.checked os 8 .any (fun w args => (Rows.topUsersSpec.pre enc Tryz.prog Tryz.f8 [] false w args ∧ laidMetH Tryz.prog laid1 w) ∧ sizedMet enc Tryz.prog Tryz.f8 (OpenSpec.ofChange Rows.topUsersSpec) false w args)
      (Rows.topUsersSpec.post enc Tryz.prog Tryz.f8 false true false false) := by
  refine returnsInHanded_of_change_and (C := Tryz.checked) (X := fun w _ => laidMetH Tryz.prog laid1 w) (fun _ _ _ hh h => h.of_heap hh) own started (by kernel_rfl) Tryz.func8
    (ChangeSpec.witness_shaped (enc := enc) (C := Tryz.checked) (os := os) (X := fun w _ => laidMetH Tryz.prog laid1 w) false (World.doorLaid Tryz.prog 400 os) #[.int .i64 0, .int .u32 0] 8 rfl (World.shaped_of_RefB (by kernel_rfl) (by kernel_rfl)) (by kernel_rfl) (by kernel_rfl) (by kernel_rfl) (door_met os _)) ?_
  intro W base args ds gs before hval0 hW _ _ hL _
  have hval : ∀ (j : Nat) t v, Tryz.f8.params[j]? = some t → args[j]? = some v → Value.okWide Tryz.prog W .any base t v := hval0
  have hW' := hW
  obtain ⟨p, q, hA0, hV, rfl, hfz, hnd⟩ := hW
  have hA : DataW.TrodAll enc Tryz.prog W 0 (fun _ => true) true Tryz.f8.params.toList args.toList ds p := hA0
  rw [Tryz.params8] at hA hval
  obtain ⟨v0, vs0, d0, ds0, p0, q0, hargs, rfl, rfl, h0, r0⟩ := trodAll_cons hA
  obtain ⟨v1, vs1, d1, ds1, p1, q1, rfl, rfl, rfl, h1, r1⟩ := trodAll_cons r0
  obtain ⟨rfl, rfl, rfl⟩ := trodAll_nil r1
  obtain rfl : args = #[v0, v1] := by cases args; simp_all
  obtain ⟨rfl, rfl⟩ := trodVars_none hV
  obtain ⟨a0, rfl, rfl, rfl, w0⟩ := open_int Tryz.underlying3 (hval 0 3 v0 rfl rfl) h0
  obtain ⟨a1, rfl, rfl, rfl, w1⟩ := open_int Tryz.underlying22 (hval 1 22 v1 rfl rfl) h1
  clear hA0 hval0
  simp only [List.append_nil] at hW'
  refine (walk a0 w0 a1 w1 W hL).mono fun e W' ⟨he, hb⟩ => ?_
  subst he
  exact ⟨_, rfl, post_of_below (pa := []) (pv := []) hW' (fun _ _ _ => (trodAll_cons_mk (shut_bool Tryz.underlying4 _) trodAll_mk0))
    (fun sp _ => (trodAll_cons_mk (shut_int Tryz.underlying3 w0) (trodAll_cons_mk (shut_int Tryz.underlying22 w1) trodAll_mk0))) (fun _ _ => rfl) rfl hb (ok_one (by kernel_rfl) rfl (okWide_bool_mk Tryz.underlying4 _))⟩
theorem fact0 : Rows.topUsersRow.wf (OpenSpec.ofChange Rows.topUsersSpec) = true := by kernel_rfl
theorem fact3 : Tryz.f8.params.all (Tryz.prog.readableRec ·) = true := by kernel_rfl
theorem fact4 : namedTie Tryz.prog Rows.topUsersRow.named Rows.topUsersSpec.vars = true := by kernel_rfl
theorem fact5 : (Rows.topUsersRow.stops == []) = true := by kernel_rfl
theorem fact7 : (Rows.topUsersRow.knobs == []) = true := by kernel_rfl
theorem fact9 : (Rows.topUsersRow.inPlace == Tryz.prog.inPlace 8) = true := by kernel_rfl
theorem fact10 : (Rows.topUsersRow.unfollowed == Tryz.prog.unfollowed 8) = true := by kernel_rfl
theorem fact11 : (Rows.topUsersRow.recurses == Tryz.prog.recurses 8) = true := by kernel_rfl
theorem fact12 : (Rows.topUsersRow.named == Tryz.prog.varsNamed 8) = true := by kernel_rfl
theorem fact13 : (Rows.topUsersRow.maps == (Tryz.f8.params.toList ++ Rows.topUsersSpec.plain.varTypes Tryz.prog).any (Tryz.prog.mapsRec ·)) = true := by kernel_rfl
theorem fact14 : (Rows.topUsersRow.ifaces == (Tryz.f8.params.toList ++ Rows.topUsersSpec.plain.varTypes Tryz.prog).any (Tryz.prog.ifacesRec ·)) = true := by kernel_rfl
theorem fact15 : (Rows.topUsersRow.mapsOut == Tryz.prog.mapsAmong Tryz.f8.resultTypes.toList) = true := by kernel_rfl
theorem fact16 : (Rows.topUsersRow.loops == (Tryz.f8.params.toList ++ Rows.topUsersSpec.plain.varTypes Tryz.prog).any (Tryz.prog.loopsFrom ·)) = true := by kernel_rfl
theorem fact17 : (Rows.topUsersRow.wideKeys == (Tryz.f8.params.toList ++ Rows.topUsersSpec.plain.varTypes Tryz.prog ++ Tryz.f8.resultTypes.toList).any (Tryz.prog.wideKeysFrom ·)) = true := by kernel_rfl
theorem fact18 : Rows.topUsersSpec.vars.all (Tryz.prog.varReadable ·) = true := by kernel_rfl
theorem fact19 : Tryz.f8.resultTypes.all (fun t => Tryz.prog.readableRec t && decide (t < Tryz.prog.types.size)) = true := by kernel_rfl
theorem fact20 : (Rows.topUsersRow.ifacesOut == Tryz.f8.resultTypes.toList.any (Tryz.prog.ifacesRec ·)) = true := by kernel_rfl
theorem fact21 : (Rows.topUsersRow.loopsOut == Tryz.f8.resultTypes.toList.any (Tryz.prog.loopsFrom ·)) = true := by kernel_rfl
theorem fact22 : (Rows.topUsersRow.plainKeys == Tryz.prog.plainKeys) = true := by kernel_rfl
theorem fact23 : Rows.topUsersRow.shortTexts.isNone = true := by kernel_rfl
theorem fact26 : (Rows.topUsersRow.lifted == Tryz.prog.liftsFinal) = true := by kernel_rfl
theorem fact27 : (Tryz.prog.make == some Rows.topUsersRow.make) = true := by kernel_rfl
theorem fact28 : (Rows.topUsersRow.kinds == (if Rows.topUsersRow.domain.isEmpty then [] else Tryz.f8.params.toList.map fun t => match Tryz.prog.underlying t with | some (.int k) => some k | _ => none)) = true := by kernel_rfl
theorem fact29 : (Rows.topUsersRow.pinned == Rows.topUsersRow.pinnedBy) = true := by kernel_rfl
theorem fact30 : (Rows.topUsersRow.veiled == (Tryz.f8.params.toList ++ Rows.topUsersSpec.plain.varTypes Tryz.prog ++ Tryz.f8.resultTypes.toList).any (Tryz.prog.veiledRec ·)) = true := by kernel_rfl
theorem fact31 : Rows.topUsersRow.veiledFits Tryz.prog Tryz.f8.params.toList (Tryz.f8.params.toList ++ Rows.topUsersSpec.plain.varTypes Tryz.prog ++ Tryz.f8.resultTypes.toList) = true := by kernel_rfl
set_option maxRecDepth 100000 in
theorem facts : joinedFacts Tryz.prog 8 Tryz.f8 Rows.topUsersSpec Rows.topUsersRow = true := by
  simp only [joinedFacts, Bool.and_eq_true]
  exact ⟨⟨⟨⟨⟨⟨⟨⟨⟨⟨⟨⟨⟨⟨⟨⟨⟨⟨⟨⟨⟨⟨⟨⟨⟨⟨⟨⟨⟨⟨⟨fact0, glob1⟩, glob2⟩, fact3⟩, fact4⟩, fact5⟩, glob6⟩, fact7⟩, glob8⟩, fact9⟩, fact10⟩, fact11⟩, fact12⟩, fact13⟩, fact14⟩, fact15⟩, fact16⟩, fact17⟩, fact18⟩, fact19⟩, fact20⟩, fact21⟩, fact22⟩, fact23⟩, glob24⟩, glob25⟩, fact26⟩, fact27⟩, fact28⟩, fact29⟩, fact30⟩, fact31⟩
theorem wrap : Tryz.f8.isWrapper Tryz.pinned.checked.prog Rows.topUsersRow.wrapper Rows.topUsersRow.mainSum := by
  unfold Func.isWrapper; first | (rw [if_pos (by decide +kernel)]; kernel_rfl) | (rw [if_neg (by decide +kernel)]; exact ⟨rfl, rfl⟩)
theorem over : Rows.TopUsersSaid :=
  OpenClaim.holds_of_wide 8 Tryz.f8 rfl rfl rfl rfl rfl rfl rfl ⟨rfl, rfl, rfl, rfl, rfl⟩ rfl rfl rfl rfl rfl (by kernel_rfl) Tryz.func8 facts
    (of_decide_eq_true (by kernel_rfl)) wrap
    (fun os started H enc _ => lifted os started H enc)
theorem byText : Rows.topUsersRow.wfByText (OpenSpec.ofChange Rows.topUsersSpec) = true := by kernel_rfl
theorem goes : false = Rows.topUsersRow.goesBy Tryz.prog := by kernel_rfl
theorem proved : Rows.TopUsersCardSaid :=
  Claim7.holds_tied_plain_at .later [] [.data] true Rows.topUsersCard.stood.harness false
    over (fun _ h => by cases h) byText (fun _ h => by cases h) topUsers_row_tie rfl ⟨rfl, rfl⟩ mainIs rfl
    (fun f fn hf hfn => by
      obtain rfl : f = 8 := Option.some.inj ((show Tryz.prog.funcNamed Tryz.f8.name = some 8 by kernel_rfl).symm.trans hf) |>.symm
      obtain rfl : fn = Tryz.f8 := (Option.some.inj (Tryz.func8.symm.trans hfn)).symm
      exact ⟨noLooks, fun j t ht => by
        rw [Tryz.params8] at ht
        have hm : t ∈ [3, 22] := by simpa using Array.mem_of_getElem? ht
        have hall : ([3, 22].all fun u => !Tryz.prog.wantsStandIn u) = true := by kernel_rfl
        exact (show Tryz.prog.wantsStandIn t = false by simpa using List.all_eq_true.1 hall t hm)⟩)
    goes
#print axioms proved
end Go.Proofs.YthmcpmdohmfeiaaGreatDoor.topUsers
