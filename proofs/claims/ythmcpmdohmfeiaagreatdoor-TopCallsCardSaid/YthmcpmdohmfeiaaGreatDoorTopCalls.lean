/- TopCalls answers true for every input, and leaves its arguments as they were: calls within calls come back in order, as deep as the stack is; one deeper is told with Full. The package variables that it reads start as the program's text lays them (the card ties them). -/
import Derived.Test.YthmcpmdohmfeiaaGreatDoorCoL1
import Derived.Test.YthmcpmdohmfeiaaGreatDoorCoL2
import Derived.Test.YthmcpmdohmfeiaaGreatDoorCoL3
import Derived.Test.YthmcpmdohmfeiaaGreatDoorCoL4
import Derived.Test.YthmcpmdohmfeiaaGreatDoorTf
namespace Go.Proofs.YthmcpmdohmfeiaaGreatDoor.topCalls
open Go Go.Ev Go.ChangeShapes Go.WideShapes Go.ChangeAt Go.RowKit Tp
set_option linter.unusedVariables false
theorem walk (a0 : Int) (h0 : (Lit.int .i64 a0).wf = true) (a1 : Int) (h1 : (Lit.int .u32 a1).wf = true) (W : World) (hL : laidMetH Tryz.prog laid1 W) :
    Calls Tryz.prog 12 #[.int .i64 a0, .int .u32 a1] W fun e w' => e = .returned (.bool true) ∧ Below W.heap.size W w' := by
  have u32 : ∀ x : Int, (Lit.int .u32 x).wf = true → 0 ≤ x ∧ x < 2 ^ 32 := fun x h => by simp [Lit.wf, IntKind.min, IntKind.max, IntKind.signed, IntKind.bits] at h; omega
  obtain ⟨z, hz⟩ := zz_of a0
  have hB : inB a0 1 20 = true := by
    simp [Lit.wf, IntKind.min, IntKind.max, IntKind.signed, IntKind.bits] at h0
    simp [inB]; omega
  obtain ⟨g0, g1⟩ := u32 _ h1
  have go : ∀ (r : Nat) (ρ : Nat → Nat) (G : List Asm) (a b : Job), ρ 0 = a1.toNat → ρ 2 = z → okB G ρ = true → 1 + a0 % 20 = (r : Int) → (∀ [Bs] [Tz1], JobOk Tryz.prog 34 ρ a) → (∀ [Bs] [Tz1], JobOk Tryz.prog 34 ρ b) → a.S.length ≤ 32767 → b.S.length ≤ 32767 → (∀ M, lawRunJ M G [(2, 1, 20, r)] a b 12 [.y .i64 2, wd 0 .u32 32] = tt) → Calls Tryz.prog 12 #[.int .i64 a0, .int .u32 a1] W fun e w' => e = .returned (.bool true) ∧ Below W.heap.size W w' := fun r ρ G a b e0 e2 hG hr ja jb na nb hrun =>
    law_callsJ (ρ := ρ) (G := G) (okB_true hG) (WL := [(2, 1, 20, r)]) (fun p hp => by
        rw [List.mem_singleton] at hp
        subst hp
        refine ⟨by show inB (zz (ρ 2)) 1 20 = true; rw [e2, hz]; exact hB, ?_⟩
        show (1 : Int) + zz (ρ 2) % (20 - 1 + 1) = r
        rw [e2, hz]; omega) hL ja jb na nb hrun
      (by show (#[(SV.y .i64 2).inst ρ, (wd 0 .u32 32).inst ρ] : Array Value) = _; rw [y_inst (show zz (ρ 2) = a0 from e2 ▸ hz), wd_inst g0 g1 e0])
      (by intro x hx; simp at hx; rcases hx with rfl | rfl <;> rfl)
  have hk : 1 + a0 % 20 = 1 ∨ 1 + a0 % 20 = 2 ∨ 1 + a0 % 20 = 3 ∨ 1 + a0 % 20 = 4 ∨ 1 + a0 % 20 = 5 ∨ 1 + a0 % 20 = 6 ∨ 1 + a0 % 20 = 7 ∨ 1 + a0 % 20 = 8 ∨ 1 + a0 % 20 = 9 ∨ 1 + a0 % 20 = 10 ∨ 1 + a0 % 20 = 11 ∨ 1 + a0 % 20 = 12 ∨ 1 + a0 % 20 = 13 ∨ 1 + a0 % 20 = 14 ∨ 1 + a0 % 20 = 15 ∨ 1 + a0 % 20 = 16 ∨ 1 + a0 % 20 = 17 ∨ 1 + a0 % 20 = 18 ∨ 1 + a0 % 20 = 19 ∨ 1 + a0 % 20 = 20 := by omega
  rcases hk with h | h | h | h | h | h | h | h | h | h | h | h | h | h | h | h | h | h | h | h
  · exact go 1 (coe1 a1.toNat z) coLE0 coAJ1 coBJ1 rfl rfl (by kernel_rfl) h (coA_job1 _ z) (coB_job1 _ z) coA_len coB_len co_run1
  · exact go 2 (coe2 a1.toNat z) coLE0 coAJ2 coBJ2 rfl rfl (by kernel_rfl) h (coA_job2 _ z) (coB_job2 _ z) coA_len coB_len co_run2
  · exact go 3 (coe3 a1.toNat z) coLE0 coAJ3 coBJ3 rfl rfl (by kernel_rfl) h (coA_job3 _ z) (coB_job3 _ z) coA_len coB_len co_run3
  · exact go 4 (coe4 a1.toNat z) coLE0 coAJ4 coBJ4 rfl rfl (by kernel_rfl) h (coA_job4 _ z) (coB_job4 _ z) coA_len coB_len co_run4
  · exact go 5 (coe5 a1.toNat z) coLE0 coAJ5 coBJ5 rfl rfl (by kernel_rfl) h (coA_job5 _ z) (coB_job5 _ z) coA_len coB_len co_run5
  · exact go 6 (coe6 a1.toNat z) coLE0 coAJ6 coBJ6 rfl rfl (by kernel_rfl) h (coA_job6 _ z) (coB_job6 _ z) coA_len coB_len co_run6
  · exact go 7 (coe7 a1.toNat z) coLE0 coAJ7 coBJ7 rfl rfl (by kernel_rfl) h (coA_job7 _ z) (coB_job7 _ z) coA_len coB_len co_run7
  · exact go 8 (coe8 a1.toNat z) coLE0 coAJ8 coBJ8 rfl rfl (by kernel_rfl) h (coA_job8 _ z) (coB_job8 _ z) coA_len coB_len co_run8
  · exact go 9 (coe9 a1.toNat z) coLE0 coAJ9 coBJ9 rfl rfl (by kernel_rfl) h (coA_job9 _ z) (coB_job9 _ z) coA_len coB_len co_run9
  · exact go 10 (coe10 a1.toNat z) coLE0 coAJ10 coBJ10 rfl rfl (by kernel_rfl) h (coA_job10 _ z) (coB_job10 _ z) coA_len coB_len co_run10
  · exact go 11 (coe11 a1.toNat z) coLE0 coAJ11 coBJ11 rfl rfl (by kernel_rfl) h (coA_job11 _ z) (coB_job11 _ z) coA_len coB_len co_run11
  · exact go 12 (coe12 a1.toNat z) coLE0 coAJ12 coBJ12 rfl rfl (by kernel_rfl) h (coA_job12 _ z) (coB_job12 _ z) coA_len coB_len co_run12
  · exact go 13 (coe13 a1.toNat z) coLE0 coAJ13 coBJ13 rfl rfl (by kernel_rfl) h (coA_job13 _ z) (coB_job13 _ z) coA_len coB_len co_run13
  · exact go 14 (coe14 a1.toNat z) coLE0 coAJ14 coBJ14 rfl rfl (by kernel_rfl) h (coA_job14 _ z) (coB_job14 _ z) coA_len coB_len co_run14
  · exact go 15 (coe15 a1.toNat z) coLE0 coAJ15 coBJ15 rfl rfl (by kernel_rfl) h (coA_job15 _ z) (coB_job15 _ z) coA_len coB_len co_run15
  · exact go 16 (coe16 a1.toNat z) coLE0 coAJ16 coBJ16 rfl rfl (by kernel_rfl) h (coA_job16 _ z) (coB_job16 _ z) coA_len coB_len co_run16
  · exact go 17 (coe17 a1.toNat z) coLE1 coAJ17 coBJ17 rfl rfl (by kernel_rfl) h (coA_job17 _ z) (coB_job17 _ z) coA_len coB_len co_run17
  · exact go 18 (coe18 a1.toNat z) coLE1 coAJ18 coBJ18 rfl rfl (by kernel_rfl) h (coA_job18 _ z) (coB_job18 _ z) coA_len coB_len co_run18
  · exact go 19 (coe19 a1.toNat z) coLE1 coAJ19 coBJ19 rfl rfl (by kernel_rfl) h (coA_job19 _ z) (coB_job19 _ z) coA_len coB_len co_run19
  · exact go 20 (coe20 a1.toNat z) coLE1 coAJ20 coBJ20 rfl rfl (by kernel_rfl) h (coA_job20 _ z) (coB_job20 _ z) coA_len coB_len co_run20
set_option maxRecDepth 100000 in
theorem lifted (os : Os) (started : os.Started) (H : Type) (enc : TypeId × Value → H) :
    ReturnsInHanded {} Tryz.checked os 12 .any (fun w args => (Rows.topCallsSpec.pre enc Tryz.prog Tryz.f12 [] false w args ∧ laidMetH Tryz.prog laid1 w) ∧ sizedMet enc Tryz.prog Tryz.f12 (OpenSpec.ofChange Rows.topCallsSpec) false w args)
      (Rows.topCallsSpec.post enc Tryz.prog Tryz.f12 false true false false) := by
  refine returnsInHanded_of_change_and (C := Tryz.checked) (X := fun w _ => laidMetH Tryz.prog laid1 w) (fun _ _ _ hh h => h.of_heap hh) own started (by kernel_rfl) Tryz.func12
    (ChangeSpec.witness_shaped (enc := enc) (C := Tryz.checked) (os := os) (X := fun w _ => laidMetH Tryz.prog laid1 w) false (World.doorLaid Tryz.prog 400 os) #[.int .i64 0, .int .u32 0] 8 rfl (World.shaped_of_RefB (by kernel_rfl) (by kernel_rfl)) (by kernel_rfl) (by kernel_rfl) (by kernel_rfl) (door_met os _)) ?_
  intro W base args ds gs before hval0 hW _ _ hL _
  have hval : ∀ (j : Nat) t v, Tryz.f12.params[j]? = some t → args[j]? = some v → Value.okWide Tryz.prog W .any base t v := hval0
  have hW' := hW
  obtain ⟨p, q, hA0, hV, rfl, hfz, hnd⟩ := hW
  have hA : DataW.TrodAll enc Tryz.prog W 0 (fun _ => true) true Tryz.f12.params.toList args.toList ds p := hA0
  rw [Tryz.params12] at hA hval
  obtain ⟨v0, vs0, d0, ds0, p0, q0, hargs, rfl, rfl, h0, r0⟩ := trodAll_cons hA
  obtain ⟨v1, vs1, d1, ds1, p1, q1, rfl, rfl, rfl, h1, r1⟩ := trodAll_cons r0
  obtain ⟨rfl, rfl, rfl⟩ := trodAll_nil r1
  obtain rfl : args = #[v0, v1] := by cases args; simp_all
  obtain ⟨rfl, rfl⟩ := trodVars_none hV
  obtain ⟨a0, rfl, rfl, rfl, w0⟩ := open_int Tryz.underlying3 (hval 0 3 v0 rfl rfl) h0
  obtain ⟨a1, rfl, rfl, rfl, w1⟩ := open_int Tryz.underlying22 (hval 1 22 v1 rfl rfl) h1
  clear hA0 hval0
  simp only [List.append_nil] at hW'
  refine (walk a0 w0 a1 w1 W hL).mono fun e W' ⟨he, hb⟩ => ?_
  subst he
  exact ⟨_, rfl, post_of_below (pa := []) (pv := []) hW' (fun _ _ _ => (trodAll_cons_mk (shut_bool Tryz.underlying4 _) trodAll_mk0))
    (fun sp _ => (trodAll_cons_mk (shut_int Tryz.underlying3 w0) (trodAll_cons_mk (shut_int Tryz.underlying22 w1) trodAll_mk0))) (fun _ _ => rfl) rfl hb (ok_one (by kernel_rfl) rfl (okWide_bool_mk Tryz.underlying4 _))⟩
theorem fact0 : Rows.topCallsRow.wf (OpenSpec.ofChange Rows.topCallsSpec) = true := by kernel_rfl
theorem fact3 : Tryz.f12.params.all (Tryz.prog.readableRec ·) = true := by kernel_rfl
theorem fact4 : namedTie Tryz.prog Rows.topCallsRow.named Rows.topCallsSpec.vars = true := by kernel_rfl
theorem fact5 : (Rows.topCallsRow.stops == []) = true := by kernel_rfl
theorem fact7 : (Rows.topCallsRow.knobs == []) = true := by kernel_rfl
theorem fact9 : (Rows.topCallsRow.inPlace == Tryz.prog.inPlace 12) = true := by kernel_rfl
theorem fact10 : (Rows.topCallsRow.unfollowed == Tryz.prog.unfollowed 12) = true := by kernel_rfl
theorem fact11 : (Rows.topCallsRow.recurses == Tryz.prog.recurses 12) = true := by kernel_rfl
theorem fact12 : (Rows.topCallsRow.named == Tryz.prog.varsNamed 12) = true := by kernel_rfl
theorem fact13 : (Rows.topCallsRow.maps == (Tryz.f12.params.toList ++ Rows.topCallsSpec.plain.varTypes Tryz.prog).any (Tryz.prog.mapsRec ·)) = true := by kernel_rfl
theorem fact14 : (Rows.topCallsRow.ifaces == (Tryz.f12.params.toList ++ Rows.topCallsSpec.plain.varTypes Tryz.prog).any (Tryz.prog.ifacesRec ·)) = true := by kernel_rfl
theorem fact15 : (Rows.topCallsRow.mapsOut == Tryz.prog.mapsAmong Tryz.f12.resultTypes.toList) = true := by kernel_rfl
theorem fact16 : (Rows.topCallsRow.loops == (Tryz.f12.params.toList ++ Rows.topCallsSpec.plain.varTypes Tryz.prog).any (Tryz.prog.loopsFrom ·)) = true := by kernel_rfl
theorem fact17 : (Rows.topCallsRow.wideKeys == (Tryz.f12.params.toList ++ Rows.topCallsSpec.plain.varTypes Tryz.prog ++ Tryz.f12.resultTypes.toList).any (Tryz.prog.wideKeysFrom ·)) = true := by kernel_rfl
theorem fact18 : Rows.topCallsSpec.vars.all (Tryz.prog.varReadable ·) = true := by kernel_rfl
theorem fact19 : Tryz.f12.resultTypes.all (fun t => Tryz.prog.readableRec t && decide (t < Tryz.prog.types.size)) = true := by kernel_rfl
theorem fact20 : (Rows.topCallsRow.ifacesOut == Tryz.f12.resultTypes.toList.any (Tryz.prog.ifacesRec ·)) = true := by kernel_rfl
theorem fact21 : (Rows.topCallsRow.loopsOut == Tryz.f12.resultTypes.toList.any (Tryz.prog.loopsFrom ·)) = true := by kernel_rfl
theorem fact22 : (Rows.topCallsRow.plainKeys == Tryz.prog.plainKeys) = true := by kernel_rfl
theorem fact23 : Rows.topCallsRow.shortTexts.isNone = true := by kernel_rfl
theorem fact26 : (Rows.topCallsRow.lifted == Tryz.prog.liftsFinal) = true := by kernel_rfl
theorem fact27 : (Tryz.prog.make == some Rows.topCallsRow.make) = true := by kernel_rfl
theorem fact28 : (Rows.topCallsRow.kinds == (if Rows.topCallsRow.domain.isEmpty then [] else Tryz.f12.params.toList.map fun t => match Tryz.prog.underlying t with | some (.int k) => some k | _ => none)) = true := by kernel_rfl
theorem fact29 : (Rows.topCallsRow.pinned == Rows.topCallsRow.pinnedBy) = true := by kernel_rfl
theorem fact30 : (Rows.topCallsRow.veiled == (Tryz.f12.params.toList ++ Rows.topCallsSpec.plain.varTypes Tryz.prog ++ Tryz.f12.resultTypes.toList).any (Tryz.prog.veiledRec ·)) = true := by kernel_rfl
theorem fact31 : Rows.topCallsRow.veiledFits Tryz.prog Tryz.f12.params.toList (Tryz.f12.params.toList ++ Rows.topCallsSpec.plain.varTypes Tryz.prog ++ Tryz.f12.resultTypes.toList) = true := by kernel_rfl
set_option maxRecDepth 100000 in
theorem facts : joinedFacts Tryz.prog 12 Tryz.f12 Rows.topCallsSpec Rows.topCallsRow = true := by
  simp only [joinedFacts, Bool.and_eq_true]
  exact ⟨⟨⟨⟨⟨⟨⟨⟨⟨⟨⟨⟨⟨⟨⟨⟨⟨⟨⟨⟨⟨⟨⟨⟨⟨⟨⟨⟨⟨⟨⟨fact0, glob1⟩, glob2⟩, fact3⟩, fact4⟩, fact5⟩, glob6⟩, fact7⟩, glob8⟩, fact9⟩, fact10⟩, fact11⟩, fact12⟩, fact13⟩, fact14⟩, fact15⟩, fact16⟩, fact17⟩, fact18⟩, fact19⟩, fact20⟩, fact21⟩, fact22⟩, fact23⟩, glob24⟩, glob25⟩, fact26⟩, fact27⟩, fact28⟩, fact29⟩, fact30⟩, fact31⟩
theorem wrap : Tryz.f12.isWrapper Tryz.pinned.checked.prog Rows.topCallsRow.wrapper Rows.topCallsRow.mainSum := by
  unfold Func.isWrapper; first | (rw [if_pos (by decide +kernel)]; kernel_rfl) | (rw [if_neg (by decide +kernel)]; exact ⟨rfl, rfl⟩)
theorem over : Rows.TopCallsSaid :=
  OpenClaim.holds_of_wide 12 Tryz.f12 rfl rfl rfl rfl rfl rfl rfl ⟨rfl, rfl, rfl, rfl, rfl⟩ rfl rfl rfl rfl rfl (by kernel_rfl) Tryz.func12 facts
    (of_decide_eq_true (by kernel_rfl)) wrap
    (fun os started H enc _ => lifted os started H enc)
theorem byText : Rows.topCallsRow.wfByText (OpenSpec.ofChange Rows.topCallsSpec) = true := by kernel_rfl
theorem goes : false = Rows.topCallsRow.goesBy Tryz.prog := by kernel_rfl
theorem proved : Rows.TopCallsCardSaid :=
  Claim7.holds_tied_plain_at .later [] [.data] true Rows.topCallsCard.stood.harness false
    over (fun _ h => by cases h) byText (fun _ h => by cases h) topCalls_row_tie rfl ⟨rfl, rfl⟩ mainIs rfl
    (fun f fn hf hfn => by
      obtain rfl : f = 12 := Option.some.inj ((show Tryz.prog.funcNamed Tryz.f12.name = some 12 by kernel_rfl).symm.trans hf) |>.symm
      obtain rfl : fn = Tryz.f12 := (Option.some.inj (Tryz.func12.symm.trans hfn)).symm
      exact ⟨noLooks, fun j t ht => by
        rw [Tryz.params12] at ht
        have hm : t ∈ [3, 22] := by simpa using Array.mem_of_getElem? ht
        have hall : ([3, 22].all fun u => !Tryz.prog.wantsStandIn u) = true := by kernel_rfl
        exact (show Tryz.prog.wantsStandIn t = false by simpa using List.all_eq_true.1 hall t hm)⟩)
    goes
#print axioms proved
end Go.Proofs.YthmcpmdohmfeiaaGreatDoor.topCalls
