/- TopPaging answers true for every input, and leaves its arguments as they were: a page that is mapped elsewhere is seen there, once its entry is dropped from the buffer; till then it is seen where it was. The package variables that it reads start as the program's text lays them (the card ties them). -/
import Derived.Test.YthmcpmdohmfeiaaGreatDoorPaA
import Derived.Test.YthmcpmdohmfeiaaGreatDoorPaB
import Derived.Test.YthmcpmdohmfeiaaGreatDoorPaC
import Derived.Test.YthmcpmdohmfeiaaGreatDoorPaD
import Derived.Test.YthmcpmdohmfeiaaGreatDoorTf
namespace Go.Proofs.YthmcpmdohmfeiaaGreatDoor.topPaging
open Go Go.Ev Go.ChangeShapes Go.WideShapes Go.ChangeAt Go.RowKit Tp
set_option linter.unusedVariables false
theorem walk (a0 : Int) (h0 : (Lit.int .u8 a0).wf = true) (a1 : Int) (h1 : (Lit.int .u8 a1).wf = true) (a2 : Bool) (W : World) (hL : laidMetH Tryz.prog laid1 W) :
    Calls Tryz.prog 6 #[.int .u8 a0, .int .u8 a1, .bool a2] W fun e w' => e = .returned (.bool true) ∧ Below W.heap.size W w' := by
  have u8 : ∀ x : Int, (Lit.int .u8 x).wf = true → 0 ≤ x ∧ x < 2 ^ 8 := fun x h => by simp [Lit.wf, IntKind.min, IntKind.max, IntKind.signed, IntKind.bits] at h; omega
  have go : ∀ (G : List Asm) (X Y D : SV), (∀ a ∈ G, a.ok fun i => match i with | 0 => a0.toNat | _ => a1.toNat) → X.inst (fun i => match i with | 0 => a0.toNat | _ => a1.toNat) = .int .u8 a0 → Y.inst (fun i => match i with | 0 => a0.toNat | _ => a1.toNat) = .int .u8 a1 → D.inst (fun i => match i with | 0 => a0.toNat | _ => a1.toNat) = .bool a2 →
      lawRun G [] 6 [X, Y, D] = tt → Calls Tryz.prog 6 #[.int .u8 a0, .int .u8 a1, .bool a2] W fun e w' => e = .returned (.bool true) ∧ Below W.heap.size W w' := fun G X Y D hG hX hY hD hr =>
    law_calls hG (WL := []) (fun _ h => by cases h) hr (by show (#[X.inst _, Y.inst _, D.inst _] : Array Value) = _; rw [hX, hY, hD]) (by intro x hx; simp at hx; rcases hx with rfl | rfl | rfl <;> rfl) W
  have asm : ∀ (ρ : Nat → Nat) (i : Nat) (a : Int), 0 ≤ a → a < 2 ^ 8 → a ≠ 0 → ρ i = a.toNat → (⟨0, [.v i 0 8], [], false⟩ : Asm).ok ρ := fun ρ i a ha hb hn hi => by
    have e : evW ρ [.v i 0 8] = a.toNat := by
      have : a.toNat % 2 ^ 8 = a.toNat := Nat.mod_eq_of_lt (by omega)
      simp only [evW, Seg.val, Nat.pow_zero, Nat.div_one, Nat.mul_zero, Nat.add_zero, hi, this]
    show Nat.beq (evW ρ [.v i 0 8]) 0 = false
    rw [e]
    cases hq : Nat.beq a.toNat 0 with
    | false => rfl
    | true =>
      have := Nat.eq_of_beq_eq_true hq
      omega
  have w0 := wd_inst (ρ := fun i => match i with | 0 => a0.toNat | _ => a1.toNat) (i := 0) (k := .u8) (u8 _ h0).1 (u8 _ h0).2 rfl
  have w1 := wd_inst (ρ := fun i => match i with | 0 => a0.toNat | _ => a1.toNat) (i := 1) (k := .u8) (u8 _ h1).1 (u8 _ h1).2 rfl
  by_cases hx : a0 = 0
  · have z0 : (SV.n .u8 0).inst (fun i => match i with | 0 => a0.toNat | _ => a1.toNat) = .int .u8 a0 := by rw [hx]; rfl
    by_cases hy : a1 = 0
    · have z1 : (SV.n .u8 0).inst (fun i => match i with | 0 => a0.toNat | _ => a1.toNat) = .int .u8 a1 := by rw [hy]; rfl
      cases a2
      · exact go [] _ _ .f (fun _ h => by cases h) z0 z1 rfl paging_run000
      · exact go [] _ _ .t (fun _ h => by cases h) z0 z1 rfl paging_run001
    · have g1 := asm (fun i => match i with | 0 => a0.toNat | _ => a1.toNat) 1 a1 (u8 _ h1).1 (u8 _ h1).2 hy rfl
      cases a2
      · exact go _ _ _ .f (fun a h => by rw [List.mem_singleton] at h; rw [h]; exact g1) z0 w1 rfl paging_run010
      · exact go _ _ _ .t (fun a h => by rw [List.mem_singleton] at h; rw [h]; exact g1) z0 w1 rfl paging_run011
  · have g0 := asm (fun i => match i with | 0 => a0.toNat | _ => a1.toNat) 0 a0 (u8 _ h0).1 (u8 _ h0).2 hx rfl
    by_cases hy : a1 = 0
    · have z1 : (SV.n .u8 0).inst (fun i => match i with | 0 => a0.toNat | _ => a1.toNat) = .int .u8 a1 := by rw [hy]; rfl
      cases a2
      · exact go _ _ _ .f (fun a h => by rw [List.mem_singleton] at h; rw [h]; exact g0) w0 z1 rfl paging_run100
      · exact go _ _ _ .t (fun a h => by rw [List.mem_singleton] at h; rw [h]; exact g0) w0 z1 rfl paging_run101
    · have g1 := asm (fun i => match i with | 0 => a0.toNat | _ => a1.toNat) 1 a1 (u8 _ h1).1 (u8 _ h1).2 hy rfl
      have gg : ∀ a ∈ [(⟨0, [.v 0 0 8], [], false⟩ : Asm), ⟨0, [.v 1 0 8], [], false⟩], a.ok (fun i => match i with | 0 => a0.toNat | _ => a1.toNat) := fun a h => by
        rcases List.mem_cons.1 h with rfl | h
        · exact g0
        · rw [List.mem_singleton] at h; rw [h]; exact g1
      cases a2
      · exact go _ _ _ .f gg w0 w1 rfl paging_run110
      · exact go _ _ _ .t gg w0 w1 rfl paging_run111
set_option maxRecDepth 100000 in
theorem lifted (os : Os) (started : os.Started) (H : Type) (enc : TypeId × Value → H) :
    ReturnsInHanded {} Tryz.checked os 6 .any (fun w args => (Rows.topPagingSpec.pre enc Tryz.prog Tryz.f6 [] false w args ∧ laidMetH Tryz.prog laid1 w) ∧ sizedMet enc Tryz.prog Tryz.f6 (OpenSpec.ofChange Rows.topPagingSpec) false w args)
      (Rows.topPagingSpec.post enc Tryz.prog Tryz.f6 false true false false) := by
  refine returnsInHanded_of_change_and (C := Tryz.checked) (X := fun w _ => laidMetH Tryz.prog laid1 w) (fun _ _ _ hh h => h.of_heap hh) own started (by kernel_rfl) Tryz.func6
    (ChangeSpec.witness_shaped (enc := enc) (C := Tryz.checked) (os := os) (X := fun w _ => laidMetH Tryz.prog laid1 w) false (World.doorLaid Tryz.prog 400 os) #[.int .u8 0, .int .u8 0, .bool false] 8 rfl (World.shaped_of_RefB (by kernel_rfl) (by kernel_rfl)) (by kernel_rfl) (by kernel_rfl) (by kernel_rfl) (door_met os _)) ?_
  intro W base args ds gs before hval0 hW _ _ hL _
  have hval : ∀ (j : Nat) t v, Tryz.f6.params[j]? = some t → args[j]? = some v → Value.okWide Tryz.prog W .any base t v := hval0
  have hW' := hW
  obtain ⟨p, q, hA0, hV, rfl, hfz, hnd⟩ := hW
  have hA : DataW.TrodAll enc Tryz.prog W 0 (fun _ => true) true Tryz.f6.params.toList args.toList ds p := hA0
  rw [Tryz.params6] at hA hval
  obtain ⟨v0, vs0, d0, ds0, p0, q0, hargs, rfl, rfl, h0, r0⟩ := trodAll_cons hA
  obtain ⟨v1, vs1, d1, ds1, p1, q1, rfl, rfl, rfl, h1, r1⟩ := trodAll_cons r0
  obtain ⟨v2, vs2, d2, ds2, p2, q2, rfl, rfl, rfl, h2, r2⟩ := trodAll_cons r1
  obtain ⟨rfl, rfl, rfl⟩ := trodAll_nil r2
  obtain rfl : args = #[v0, v1, v2] := by cases args; simp_all
  obtain ⟨rfl, rfl⟩ := trodVars_none hV
  obtain ⟨a0, rfl, rfl, rfl, w0⟩ := open_int Tryz.underlying5 (hval 0 5 v0 rfl rfl) h0
  obtain ⟨a1, rfl, rfl, rfl, w1⟩ := open_int Tryz.underlying5 (hval 1 5 v1 rfl rfl) h1
  obtain ⟨a2, rfl, rfl, rfl⟩ := open_bool Tryz.underlying4 (hval 2 4 v2 rfl rfl) h2
  clear hA0 hval0
  simp only [List.append_nil] at hW'
  refine (walk a0 w0 a1 w1 a2 W hL).mono fun e W' ⟨he, hb⟩ => ?_
  subst he
  exact ⟨_, rfl, post_of_below (pa := []) (pv := []) hW' (fun _ _ _ => (trodAll_cons_mk (shut_bool Tryz.underlying4 _) trodAll_mk0))
    (fun sp _ => (trodAll_cons_mk (shut_int Tryz.underlying5 w0) (trodAll_cons_mk (shut_int Tryz.underlying5 w1) (trodAll_cons_mk (shut_bool Tryz.underlying4 _) trodAll_mk0)))) (fun _ _ => rfl) rfl hb (ok_one (by kernel_rfl) rfl (okWide_bool_mk Tryz.underlying4 _))⟩
theorem fact0 : Rows.topPagingRow.wf (OpenSpec.ofChange Rows.topPagingSpec) = true := by kernel_rfl
theorem fact3 : Tryz.f6.params.all (Tryz.prog.readableRec ·) = true := by kernel_rfl
theorem fact4 : namedTie Tryz.prog Rows.topPagingRow.named Rows.topPagingSpec.vars = true := by kernel_rfl
theorem fact5 : (Rows.topPagingRow.stops == []) = true := by kernel_rfl
theorem fact7 : (Rows.topPagingRow.knobs == []) = true := by kernel_rfl
theorem fact9 : (Rows.topPagingRow.inPlace == Tryz.prog.inPlace 6) = true := by kernel_rfl
theorem fact10 : (Rows.topPagingRow.unfollowed == Tryz.prog.unfollowed 6) = true := by kernel_rfl
theorem fact11 : (Rows.topPagingRow.recurses == Tryz.prog.recurses 6) = true := by kernel_rfl
theorem fact12 : (Rows.topPagingRow.named == Tryz.prog.varsNamed 6) = true := by kernel_rfl
theorem fact13 : (Rows.topPagingRow.maps == (Tryz.f6.params.toList ++ Rows.topPagingSpec.plain.varTypes Tryz.prog).any (Tryz.prog.mapsRec ·)) = true := by kernel_rfl
theorem fact14 : (Rows.topPagingRow.ifaces == (Tryz.f6.params.toList ++ Rows.topPagingSpec.plain.varTypes Tryz.prog).any (Tryz.prog.ifacesRec ·)) = true := by kernel_rfl
theorem fact15 : (Rows.topPagingRow.mapsOut == Tryz.prog.mapsAmong Tryz.f6.resultTypes.toList) = true := by kernel_rfl
theorem fact16 : (Rows.topPagingRow.loops == (Tryz.f6.params.toList ++ Rows.topPagingSpec.plain.varTypes Tryz.prog).any (Tryz.prog.loopsFrom ·)) = true := by kernel_rfl
theorem fact17 : (Rows.topPagingRow.wideKeys == (Tryz.f6.params.toList ++ Rows.topPagingSpec.plain.varTypes Tryz.prog ++ Tryz.f6.resultTypes.toList).any (Tryz.prog.wideKeysFrom ·)) = true := by kernel_rfl
theorem fact18 : Rows.topPagingSpec.vars.all (Tryz.prog.varReadable ·) = true := by kernel_rfl
theorem fact19 : Tryz.f6.resultTypes.all (fun t => Tryz.prog.readableRec t && decide (t < Tryz.prog.types.size)) = true := by kernel_rfl
theorem fact20 : (Rows.topPagingRow.ifacesOut == Tryz.f6.resultTypes.toList.any (Tryz.prog.ifacesRec ·)) = true := by kernel_rfl
theorem fact21 : (Rows.topPagingRow.loopsOut == Tryz.f6.resultTypes.toList.any (Tryz.prog.loopsFrom ·)) = true := by kernel_rfl
theorem fact22 : (Rows.topPagingRow.plainKeys == Tryz.prog.plainKeys) = true := by kernel_rfl
theorem fact23 : Rows.topPagingRow.shortTexts.isNone = true := by kernel_rfl
theorem fact26 : (Rows.topPagingRow.lifted == Tryz.prog.liftsFinal) = true := by kernel_rfl
theorem fact27 : (Tryz.prog.make == some Rows.topPagingRow.make) = true := by kernel_rfl
theorem fact28 : (Rows.topPagingRow.kinds == (if Rows.topPagingRow.domain.isEmpty then [] else Tryz.f6.params.toList.map fun t => match Tryz.prog.underlying t with | some (.int k) => some k | _ => none)) = true := by kernel_rfl
theorem fact29 : (Rows.topPagingRow.pinned == Rows.topPagingRow.pinnedBy) = true := by kernel_rfl
theorem fact30 : (Rows.topPagingRow.veiled == (Tryz.f6.params.toList ++ Rows.topPagingSpec.plain.varTypes Tryz.prog ++ Tryz.f6.resultTypes.toList).any (Tryz.prog.veiledRec ·)) = true := by kernel_rfl
theorem fact31 : Rows.topPagingRow.veiledFits Tryz.prog Tryz.f6.params.toList (Tryz.f6.params.toList ++ Rows.topPagingSpec.plain.varTypes Tryz.prog ++ Tryz.f6.resultTypes.toList) = true := by kernel_rfl
set_option maxRecDepth 100000 in
theorem facts : joinedFacts Tryz.prog 6 Tryz.f6 Rows.topPagingSpec Rows.topPagingRow = true := by
  simp only [joinedFacts, Bool.and_eq_true]
  exact ⟨⟨⟨⟨⟨⟨⟨⟨⟨⟨⟨⟨⟨⟨⟨⟨⟨⟨⟨⟨⟨⟨⟨⟨⟨⟨⟨⟨⟨⟨⟨fact0, glob1⟩, glob2⟩, fact3⟩, fact4⟩, fact5⟩, glob6⟩, fact7⟩, glob8⟩, fact9⟩, fact10⟩, fact11⟩, fact12⟩, fact13⟩, fact14⟩, fact15⟩, fact16⟩, fact17⟩, fact18⟩, fact19⟩, fact20⟩, fact21⟩, fact22⟩, fact23⟩, glob24⟩, glob25⟩, fact26⟩, fact27⟩, fact28⟩, fact29⟩, fact30⟩, fact31⟩
theorem wrap : Tryz.f6.isWrapper Tryz.pinned.checked.prog Rows.topPagingRow.wrapper Rows.topPagingRow.mainSum := by
  unfold Func.isWrapper; first | (rw [if_pos (by decide +kernel)]; kernel_rfl) | (rw [if_neg (by decide +kernel)]; exact ⟨rfl, rfl⟩)
theorem over : Rows.TopPagingSaid :=
  OpenClaim.holds_of_wide 6 Tryz.f6 rfl rfl rfl rfl rfl rfl rfl ⟨rfl, rfl, rfl, rfl, rfl⟩ rfl rfl rfl rfl rfl (by kernel_rfl) Tryz.func6 facts
    (of_decide_eq_true (by kernel_rfl)) wrap
    (fun os started H enc _ => lifted os started H enc)
theorem byText : Rows.topPagingRow.wfByText (OpenSpec.ofChange Rows.topPagingSpec) = true := by kernel_rfl
theorem goes : false = Rows.topPagingRow.goesBy Tryz.prog := by kernel_rfl
theorem proved : Rows.TopPagingCardSaid :=
  Claim7.holds_tied_plain_at .later [] [.data] true Rows.topPagingCard.stood.harness false
    over (fun _ h => by cases h) byText (fun _ h => by cases h) topPaging_row_tie rfl ⟨rfl, rfl⟩ mainIs rfl
    (fun f fn hf hfn => by
      obtain rfl : f = 6 := Option.some.inj ((show Tryz.prog.funcNamed Tryz.f6.name = some 6 by kernel_rfl).symm.trans hf) |>.symm
      obtain rfl : fn = Tryz.f6 := (Option.some.inj (Tryz.func6.symm.trans hfn)).symm
      exact ⟨noLooks, fun j t ht => by
        rw [Tryz.params6] at ht
        have hm : t ∈ [5, 5, 4] := by simpa using Array.mem_of_getElem? ht
        have hall : ([5, 5, 4].all fun u => !Tryz.prog.wantsStandIn u) = true := by kernel_rfl
        exact (show Tryz.prog.wantsStandIn t = false by simpa using List.all_eq_true.1 hall t hm)⟩)
    goes
#print axioms proved
end Go.Proofs.YthmcpmdohmfeiaaGreatDoor.topPaging
