/- TopTraps answers true for every input, and leaves its arguments as they were: an instruction that traps finds all as it was, each cause told with its own place. The package variables that it reads start as the program's text lays them (the card ties them). -/
import Derived.Test.YthmcpmdohmfeiaaGreatDoorTrA
import Derived.Test.YthmcpmdohmfeiaaGreatDoorTrB
import Derived.Test.YthmcpmdohmfeiaaGreatDoorTrC
import Derived.Test.YthmcpmdohmfeiaaGreatDoorTrD
import Derived.Test.YthmcpmdohmfeiaaGreatDoorTf
namespace Go.Proofs.YthmcpmdohmfeiaaGreatDoor.topTraps
open Go Go.Ev Go.ChangeShapes Go.WideShapes Go.ChangeAt Go.RowKit Tp
set_option linter.unusedVariables false
theorem walk (a0 : Int) (h0 : (Lit.int .i64 a0).wf = true) (a1 : Int) (h1 : (Lit.int .u32 a1).wf = true) (a2 : Int) (h2 : (Lit.int .u32 a2).wf = true) (W : World) (hL : laidMetH Tryz.prog laid1 W) :
    Calls Tryz.prog 3 #[.int .i64 a0, .int .u32 a1, .int .u32 a2] W fun e w' => e = .returned (.bool true) ∧ Below W.heap.size W w' := by
  have u32 : ∀ x : Int, (Lit.int .u32 x).wf = true → 0 ≤ x ∧ x < 2 ^ 32 := fun x h => by simp [Lit.wf, IntKind.min, IntKind.max, IntKind.signed, IntKind.bits] at h; omega
  obtain ⟨z, hz⟩ := zz_of a0
  have hB : inB a0 0 7 = true := by
    simp [Lit.wf, IntKind.min, IntKind.max, IntKind.signed, IntKind.bits] at h0
    simp [inB]; omega
  have go : ∀ r : Nat, a0 % 8 = (r : Int) → lawRun [] [(2, 0, 7, r)] 3 [.y .i64 2, wd 0 .u32 32, wd 1 .u32 32] = tt → Calls Tryz.prog 3 #[.int .i64 a0, .int .u32 a1, .int .u32 a2] W fun e w' => e = .returned (.bool true) ∧ Below W.heap.size W w' := fun r hr hrun =>
    law_calls (ρ := fun i => match i with | 0 => a1.toNat | 1 => a2.toNat | _ => z) (G := []) (fun _ h => by cases h) (WL := [(2, 0, 7, r)]
      ) (fun p hp => by
        rw [List.mem_singleton] at hp
        subst hp
        refine ⟨by show inB (zz z) 0 7 = true; rw [hz]; exact hB, ?_⟩
        show (0 : Int) + zz z % (7 - 0 + 1) = r
        rw [hz]; omega) hrun
      (by show (#[(SV.y .i64 2).inst _, (wd 0 .u32 32).inst _, (wd 1 .u32 32).inst _] : Array Value) = _; rw [y_inst hz, wd_inst (u32 _ h1).1 (u32 _ h1).2 rfl, wd_inst (u32 _ h2).1 (u32 _ h2).2 rfl])
      (by intro x hx; simp at hx; rcases hx with rfl | rfl | rfl <;> rfl) W
  have hk : a0 % 8 = 0 ∨ a0 % 8 = 1 ∨ a0 % 8 = 2 ∨ a0 % 8 = 3 ∨ a0 % 8 = 4 ∨ a0 % 8 = 5 ∨ a0 % 8 = 6 ∨ a0 % 8 = 7 := by omega
  rcases hk with h | h | h | h | h | h | h | h
  · exact go 0 h traps_run0
  · exact go 1 h traps_run1
  · exact go 2 h traps_run2
  · exact go 3 h traps_run3
  · exact go 4 h traps_run4
  · exact go 5 h traps_run5
  · exact go 6 h traps_run6
  · exact go 7 h traps_run7
set_option maxRecDepth 100000 in
theorem lifted (os : Os) (started : os.Started) (H : Type) (enc : TypeId × Value → H) :
    ReturnsInHanded {} Tryz.checked os 3 .any (fun w args => (Rows.topTrapsSpec.pre enc Tryz.prog Tryz.f3 [] false w args ∧ laidMetH Tryz.prog laid1 w) ∧ sizedMet enc Tryz.prog Tryz.f3 (OpenSpec.ofChange Rows.topTrapsSpec) false w args)
      (Rows.topTrapsSpec.post enc Tryz.prog Tryz.f3 false true false false) := by
  refine returnsInHanded_of_change_and (C := Tryz.checked) (X := fun w _ => laidMetH Tryz.prog laid1 w) (fun _ _ _ hh h => h.of_heap hh) own started (by kernel_rfl) Tryz.func3
    (ChangeSpec.witness_shaped (enc := enc) (C := Tryz.checked) (os := os) (X := fun w _ => laidMetH Tryz.prog laid1 w) false (World.doorLaid Tryz.prog 400 os) #[.int .i64 0, .int .u32 0, .int .u32 0] 8 rfl (World.shaped_of_RefB (by kernel_rfl) (by kernel_rfl)) (by kernel_rfl) (by kernel_rfl) (by kernel_rfl) (door_met os _)) ?_
  intro W base args ds gs before hval0 hW _ _ hL _
  have hval : ∀ (j : Nat) t v, Tryz.f3.params[j]? = some t → args[j]? = some v → Value.okWide Tryz.prog W .any base t v := hval0
  have hW' := hW
  obtain ⟨p, q, hA0, hV, rfl, hfz, hnd⟩ := hW
  have hA : DataW.TrodAll enc Tryz.prog W 0 (fun _ => true) true Tryz.f3.params.toList args.toList ds p := hA0
  rw [Tryz.params3] at hA hval
  obtain ⟨v0, vs0, d0, ds0, p0, q0, hargs, rfl, rfl, h0, r0⟩ := trodAll_cons hA
  obtain ⟨v1, vs1, d1, ds1, p1, q1, rfl, rfl, rfl, h1, r1⟩ := trodAll_cons r0
  obtain ⟨v2, vs2, d2, ds2, p2, q2, rfl, rfl, rfl, h2, r2⟩ := trodAll_cons r1
  obtain ⟨rfl, rfl, rfl⟩ := trodAll_nil r2
  obtain rfl : args = #[v0, v1, v2] := by cases args; simp_all
  obtain ⟨rfl, rfl⟩ := trodVars_none hV
  obtain ⟨a0, rfl, rfl, rfl, w0⟩ := open_int Tryz.underlying3 (hval 0 3 v0 rfl rfl) h0
  obtain ⟨a1, rfl, rfl, rfl, w1⟩ := open_int Tryz.underlying22 (hval 1 22 v1 rfl rfl) h1
  obtain ⟨a2, rfl, rfl, rfl, w2⟩ := open_int Tryz.underlying22 (hval 2 22 v2 rfl rfl) h2
  clear hA0 hval0
  simp only [List.append_nil] at hW'
  refine (walk a0 w0 a1 w1 a2 w2 W hL).mono fun e W' ⟨he, hb⟩ => ?_
  subst he
  exact ⟨_, rfl, post_of_below (pa := []) (pv := []) hW' (fun _ _ _ => (trodAll_cons_mk (shut_bool Tryz.underlying4 _) trodAll_mk0))
    (fun sp _ => (trodAll_cons_mk (shut_int Tryz.underlying3 w0) (trodAll_cons_mk (shut_int Tryz.underlying22 w1) (trodAll_cons_mk (shut_int Tryz.underlying22 w2) trodAll_mk0)))) (fun _ _ => rfl) rfl hb (ok_one (by kernel_rfl) rfl (okWide_bool_mk Tryz.underlying4 _))⟩
theorem fact0 : Rows.topTrapsRow.wf (OpenSpec.ofChange Rows.topTrapsSpec) = true := by kernel_rfl
theorem fact3 : Tryz.f3.params.all (Tryz.prog.readableRec ·) = true := by kernel_rfl
theorem fact4 : namedTie Tryz.prog Rows.topTrapsRow.named Rows.topTrapsSpec.vars = true := by kernel_rfl
theorem fact5 : (Rows.topTrapsRow.stops == []) = true := by kernel_rfl
theorem fact7 : (Rows.topTrapsRow.knobs == []) = true := by kernel_rfl
theorem fact9 : (Rows.topTrapsRow.inPlace == Tryz.prog.inPlace 3) = true := by kernel_rfl
theorem fact10 : (Rows.topTrapsRow.unfollowed == Tryz.prog.unfollowed 3) = true := by kernel_rfl
theorem fact11 : (Rows.topTrapsRow.recurses == Tryz.prog.recurses 3) = true := by kernel_rfl
theorem fact12 : (Rows.topTrapsRow.named == Tryz.prog.varsNamed 3) = true := by kernel_rfl
theorem fact13 : (Rows.topTrapsRow.maps == (Tryz.f3.params.toList ++ Rows.topTrapsSpec.plain.varTypes Tryz.prog).any (Tryz.prog.mapsRec ·)) = true := by kernel_rfl
theorem fact14 : (Rows.topTrapsRow.ifaces == (Tryz.f3.params.toList ++ Rows.topTrapsSpec.plain.varTypes Tryz.prog).any (Tryz.prog.ifacesRec ·)) = true := by kernel_rfl
theorem fact15 : (Rows.topTrapsRow.mapsOut == Tryz.prog.mapsAmong Tryz.f3.resultTypes.toList) = true := by kernel_rfl
theorem fact16 : (Rows.topTrapsRow.loops == (Tryz.f3.params.toList ++ Rows.topTrapsSpec.plain.varTypes Tryz.prog).any (Tryz.prog.loopsFrom ·)) = true := by kernel_rfl
theorem fact17 : (Rows.topTrapsRow.wideKeys == (Tryz.f3.params.toList ++ Rows.topTrapsSpec.plain.varTypes Tryz.prog ++ Tryz.f3.resultTypes.toList).any (Tryz.prog.wideKeysFrom ·)) = true := by kernel_rfl
theorem fact18 : Rows.topTrapsSpec.vars.all (Tryz.prog.varReadable ·) = true := by kernel_rfl
theorem fact19 : Tryz.f3.resultTypes.all (fun t => Tryz.prog.readableRec t && decide (t < Tryz.prog.types.size)) = true := by kernel_rfl
theorem fact20 : (Rows.topTrapsRow.ifacesOut == Tryz.f3.resultTypes.toList.any (Tryz.prog.ifacesRec ·)) = true := by kernel_rfl
theorem fact21 : (Rows.topTrapsRow.loopsOut == Tryz.f3.resultTypes.toList.any (Tryz.prog.loopsFrom ·)) = true := by kernel_rfl
theorem fact22 : (Rows.topTrapsRow.plainKeys == Tryz.prog.plainKeys) = true := by kernel_rfl
theorem fact23 : Rows.topTrapsRow.shortTexts.isNone = true := by kernel_rfl
theorem fact26 : (Rows.topTrapsRow.lifted == Tryz.prog.liftsFinal) = true := by kernel_rfl
theorem fact27 : (Tryz.prog.make == some Rows.topTrapsRow.make) = true := by kernel_rfl
theorem fact28 : (Rows.topTrapsRow.kinds == (if Rows.topTrapsRow.domain.isEmpty then [] else Tryz.f3.params.toList.map fun t => match Tryz.prog.underlying t with | some (.int k) => some k | _ => none)) = true := by kernel_rfl
theorem fact29 : (Rows.topTrapsRow.pinned == Rows.topTrapsRow.pinnedBy) = true := by kernel_rfl
theorem fact30 : (Rows.topTrapsRow.veiled == (Tryz.f3.params.toList ++ Rows.topTrapsSpec.plain.varTypes Tryz.prog ++ Tryz.f3.resultTypes.toList).any (Tryz.prog.veiledRec ·)) = true := by kernel_rfl
theorem fact31 : Rows.topTrapsRow.veiledFits Tryz.prog Tryz.f3.params.toList (Tryz.f3.params.toList ++ Rows.topTrapsSpec.plain.varTypes Tryz.prog ++ Tryz.f3.resultTypes.toList) = true := by kernel_rfl
set_option maxRecDepth 100000 in
theorem facts : joinedFacts Tryz.prog 3 Tryz.f3 Rows.topTrapsSpec Rows.topTrapsRow = true := by
  simp only [joinedFacts, Bool.and_eq_true]
  exact ⟨⟨⟨⟨⟨⟨⟨⟨⟨⟨⟨⟨⟨⟨⟨⟨⟨⟨⟨⟨⟨⟨⟨⟨⟨⟨⟨⟨⟨⟨⟨fact0, glob1⟩, glob2⟩, fact3⟩, fact4⟩, fact5⟩, glob6⟩, fact7⟩, glob8⟩, fact9⟩, fact10⟩, fact11⟩, fact12⟩, fact13⟩, fact14⟩, fact15⟩, fact16⟩, fact17⟩, fact18⟩, fact19⟩, fact20⟩, fact21⟩, fact22⟩, fact23⟩, glob24⟩, glob25⟩, fact26⟩, fact27⟩, fact28⟩, fact29⟩, fact30⟩, fact31⟩
theorem wrap : Tryz.f3.isWrapper Tryz.pinned.checked.prog Rows.topTrapsRow.wrapper Rows.topTrapsRow.mainSum := by
  unfold Func.isWrapper; first | (rw [if_pos (by decide +kernel)]; kernel_rfl) | (rw [if_neg (by decide +kernel)]; exact ⟨rfl, rfl⟩)
theorem over : Rows.TopTrapsSaid :=
  OpenClaim.holds_of_wide 3 Tryz.f3 rfl rfl rfl rfl rfl rfl rfl ⟨rfl, rfl, rfl, rfl, rfl⟩ rfl rfl rfl rfl rfl (by kernel_rfl) Tryz.func3 facts
    (of_decide_eq_true (by kernel_rfl)) wrap
    (fun os started H enc _ => lifted os started H enc)
theorem byText : Rows.topTrapsRow.wfByText (OpenSpec.ofChange Rows.topTrapsSpec) = true := by kernel_rfl
theorem goes : false = Rows.topTrapsRow.goesBy Tryz.prog := by kernel_rfl
theorem proved : Rows.TopTrapsCardSaid :=
  Claim7.holds_tied_plain_at .later [] [.data] true Rows.topTrapsCard.stood.harness false
    over (fun _ h => by cases h) byText (fun _ h => by cases h) topTraps_row_tie rfl ⟨rfl, rfl⟩ mainIs rfl
    (fun f fn hf hfn => by
      obtain rfl : f = 3 := Option.some.inj ((show Tryz.prog.funcNamed Tryz.f3.name = some 3 by kernel_rfl).symm.trans hf) |>.symm
      obtain rfl : fn = Tryz.f3 := (Option.some.inj (Tryz.func3.symm.trans hfn)).symm
      exact ⟨noLooks, fun j t ht => by
        rw [Tryz.params3] at ht
        have hm : t ∈ [3, 22, 22] := by simpa using Array.mem_of_getElem? ht
        have hall : ([3, 22, 22].all fun u => !Tryz.prog.wantsStandIn u) = true := by kernel_rfl
        exact (show Tryz.prog.wantsStandIn t = false by simpa using List.all_eq_true.1 hall t hm)⟩)
    goes
#print axioms proved
end Go.Proofs.YthmcpmdohmfeiaaGreatDoor.topTraps
