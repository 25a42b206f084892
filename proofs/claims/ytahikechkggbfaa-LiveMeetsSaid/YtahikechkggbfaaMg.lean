/- LiveMeets: the whole call. -/
import Derived.Test.YtahikechkggbfaaMf
namespace Go.Proofs.Ytahikechkggbfaa
open Go Go.Ev
set_option linter.unusedVariables false
set_option linter.unusedSimpArgs false
set_option maxRecDepth 100000
namespace Me
section
variable {Q : Xt → St → Prop} {a : Option Addr} {len cap : Nat} {n : Int} {d : Nat → Value} {H : Heap}
theorem reg0 (hq : ∀ s', Knows s' [(0, .slice a len cap), (1, .int .i64 n), (4, .bool false)] → s'.H = H → Q .normal s') : A1 a0 Q [(0, .slice a len cap), (1, .int .i64 n)] d H := by
  unfold A1
  rw [r0]
  refine aw_reg ?_
  refine aops_go 1 9 (by kernel_rfl) ?_
  exact aops_end (by kernel_rfl) (hq _ (knows ⟨by kernel_rfl, by kernel_rfl, by kernel_rfl, True.intro⟩) (by kernel_rfl))
theorem reg1 (hq : ∀ s', Knows s' [(0, .slice a len cap), (1, .int .i64 n), (4, .bool false), (5, .slice none 0 0)] → s'.H = H → Q .normal s') : A1 a1 Q [(0, .slice a len cap), (1, .int .i64 n), (4, .bool false)] d H := by
  unfold A1
  rw [r1]
  refine aw_reg ?_
  refine aops_go 1 9 (by kernel_rfl) ?_
  exact aops_end (by kernel_rfl) (hq _ (knows ⟨by kernel_rfl, by kernel_rfl, by kernel_rfl, by kernel_rfl, True.intro⟩) (by kernel_rfl))
theorem reg2 (hq : ∀ s', Knows s' (L0 a len cap n (.slice none 0 0) 0) → s'.H = H → Q .normal s') : A1 a2 Q [(0, .slice a len cap), (1, .int .i64 n), (4, .bool false), (5, .slice none 0 0)] d H := by
  unfold A1
  rw [r2]
  refine aw_reg ?_
  refine aops_go 1 9 (by kernel_rfl) ?_
  exact aops_end (by kernel_rfl) (hq _ (knows ⟨by kernel_rfl, by kernel_rfl, by kernel_rfl, by kernel_rfl, by kernel_rfl, True.intro⟩) (by kernel_rfl))
end
theorem asl_row (B len h : Nat) (hh : h ≤ len) : aslice T1 31 (.slice (some ⟨B, 0, none⟩) len (unk + 3)) none (some (.int .i64 (h : Int))) none = some (.slice (some ⟨B, 0, none⟩) h (unk + 3)) := by
  show aslice T1 31 (.slice (some ⟨B, 0, none⟩) len (unk + 3)) none (some (.int .i64 (Int.ofNat h))) none = _
  have e1 : Nat.ble 0 h = true := by rw [ble_dec]; simp
  have e2 : unk.ble (unk + 3) = true := by rw [ble_dec]; simp
  have e3 : h.ble len = true := by rw [ble_dec]; simp [hh]
  unfold aslice
  simp only [und31, size40, e1, e2, e3, Nat.beq_refl, Bool.and_self, cond_true, Nat.zero_mul, Nat.add_zero, Nat.sub_zero]
theorem asl_nil : aslice T1 31 (.slice none 0 0) none (some (.int .i64 ((0 : Nat) : Int))) none = some (.slice none 0 0) := by kernel_rfl
theorem take_at {S : List IV} {h i : Nat} {x : Value} (hx : (ivs (S.take h))[i]? = some x) : (ivs S)[i]? = some x := by
  have e : ivs S = ivs (S.take h) ++ ivs (S.drop h) := by
    unfold ivs
    rw [← List.flatMap_append, List.take_append_drop]
  rw [e, List.getElem?_append_left (by exact (List.getElem?_eq_some_iff.1 hx).1)]
  exact hx
theorem sS_lt (l : List (Int × Int)) (k : Nat) : ∀ i ∈ sS l k, i.f < i.t := by
  intro i hi
  unfold sS at hi
  obtain ⟨j, _, rfl⟩ := List.mem_map.1 hi
  unfold mkS
  have := Int.emod_nonneg (l.getD j (0, 0)).2 (by omega : (9 : Int) ≠ 0)
  simp only
  omega
theorem meets_tw {w0 : World} {a : Option Addr} {cap : Nat} {l : List (Int × Int)} {n : Int} {H : Heap} (hA : SlAt H a (spans l)) (hi : ∀ p ∈ l, isInt p.1 ∧ isInt p.2) (hn : isInt n) :
    Tw Try.prog 145 w0 b5 (RetIs T1 Try.f5.results fun v _ => v = .bool true) ⟨initTm 0 #[.slice a l.length cap, .int .i64 n], H⟩ := by
  rw [e5]
  refine tw_seq (step (L := [(0, .slice a l.length cap), (1, .int .i64 n)]) ok0 (knows ⟨by kernel_rfl, by kernel_rfl, True.intro⟩) fun d => reg0 fun s0 h0 e0 => then_normal ?_)
  refine tw_seq (step ok1 h0 fun d => reg1 fun s1 h1 e1 => then_normal ?_)
  refine tw_seq (tw_seq (step ok2 h1 fun d => reg2 fun s2 h2 e2 => then_normal ?_))
  refine tw_block (loop1 hA hi h2 (by rw [e2, e1, e0]) fun s3 k v hkl hk25 h3 hrow hE => ?_)
  have hSl := sS_length l k
  have hS2 := sS_lt l k
  generalize sS l k = S at *
  have hS : S.length ≤ 25 := by omega
  obtain ⟨c, cv, rfl, hv, hv0⟩ : ∃ c cv, v = .slice c S.length cv ∧ (0 < S.length → ∃ B, c = some ⟨B, 0, none⟩ ∧ cv = unk + 3 ∧ s3.H.get B = some ⟨ivs S, 40, false⟩ ∧ B < s3.H.n) ∧ (S.length = 0 → c = none ∧ cv = 0) := by
    rcases hrow with ⟨hk0, rfl⟩ | ⟨hk0, B, rfl, hB, hBn, hBo⟩
    · exact ⟨none, 0, by rw [hSl, hk0], fun h => by omega, fun _ => ⟨rfl, rfl⟩⟩
    · exact ⟨_, _, by rw [hSl], fun _ => ⟨B, rfl, rfl, hBo, hBn⟩, fun h => by omega⟩
  have h3' : Knows s3 [(1, .int .i64 n), (4, .bool false), (5, .slice c S.length cv)] := by
    intro p hp
    refine h3 p ?_
    simp only [List.mem_cons] at hp ⊢
    rcases hp with h | h | h | h
    · exact .inr (.inl h)
    · exact .inr (.inr (.inl h))
    · exact .inr (.inr (.inr (.inl h)))
    · cases h
  refine tw_seq (step ok7 h3' fun d => reg7 fun s4 h4 e4 => then_normal ?_)
  refine tw_seq (tw_seq (step ok8 h4 fun d => reg8 fun s5 h5 e5 => then_normal ?_))
  refine tw_block (loop2 (H1 := s3.H) (by omega) (fun h => let ⟨B, e1, e2, e3, _⟩ := hv h; ⟨B, e1, e2, e3⟩) h5 (by rw [e5, e4]) fun s6 ap h6 e6 hap => ?_)
  have hA6 : SlAt s6.H c (ivs S) := fun h0 => by
    obtain ⟨B, e1, e2, e3, e7⟩ := hv (by rw [ivs_len] at h0; omega)
    exact ⟨B, 0, _, e1, by rw [e6]; exact e7, by rw [e6]; exact e3, fun i x hx => by rw [Nat.zero_add]; exact hx⟩
  refine tw_hwf fun hw6 => ?_
  refine tw_seq (step ok17 h6 fun d => reg17 (p := most S S) (pressure_ev c cv S s6.H hw6 (by omega) hA6) fun s7 h7 hE7 => then_normal ?_)
  have hn' := hn
  unfold isInt at hn'
  have hq0 := Int.emod_nonneg n (by omega : ((S.length : Int) + 1) ≠ 0)
  have hq1 := Int.emod_lt_of_pos n (by omega : (0 : Int) < (S.length : Int) + 1)
  obtain ⟨hh, hhe⟩ : ∃ hh : Nat, n % ((S.length : Int) + 1) = (hh : Int) := ⟨(n % ((S.length : Int) + 1)).toNat, by omega⟩
  have hhl : hh ≤ S.length := by omega
  refine tw_seq (step ok18 h7 fun d => reg18 (h := hh) (by simp [inB]; omega) (by rw [Int.sub_zero, hhe, Int.zero_add]) fun s8 h8 e8 => then_normal ?_)
  refine tw_hwf fun hw8 => ?_
  have htl : (S.take hh).length = hh := by rw [List.length_take]; omega
  have hA8 : SlAt s8.H c (ivs S) := by rw [e8]; exact hA6.ext hE7
  have hA9 : SlAt s8.H c (ivs (S.take hh)) := fun h0 => by
    obtain ⟨B, off, ob, k1, k2, k3, k4⟩ := hA8 (by rw [ivs_len] at h0 ⊢; omega)
    exact ⟨B, off, ob, k1, k2, k3, fun i x hx => k4 i x (take_at hx)⟩
  obtain ⟨cv2, hsl⟩ : ∃ cv2, aslice T1 31 (.slice c S.length cv) none (some (.int .i64 (hh : Int))) none = some (.slice c hh cv2) := by
    by_cases h0 : 0 < S.length
    · obtain ⟨B, rfl, rfl, _⟩ := hv h0
      exact ⟨_, asl_row B S.length hh hhl⟩
    · obtain ⟨rfl, rfl⟩ := hv0 (by omega)
      have h1 : S.length = 0 := by omega
      have h2 : hh = 0 := by omega
      rw [h1, h2]
      exact ⟨0, asl_nil⟩
  have hpr := pressure_ev c cv2 (S.take hh) s8.H hw8 (by omega) hA9
  rw [htl] at hpr
  have hqp : decide (most (S.take hh) (S.take hh) ≤ most S S) = true := by simp [press_take S hh]
  have hpl : decide (most S S ≤ (S.length : Int)) = true := by simp [press_len S]
  cases ap with
  | true =>
    have h1 : decide (most S S ≤ 1) = true := by simp [press_apart S hS2 (hap.1 rfl)]
    refine tw_seq (step ok19 h8 fun d => reg19_t h1 hsl hpr hqp hpl fun s9 h9 => then_normal (tw_ret ?_))
    exact ⟨(s9.tm.get 4).getD undef, by kernel_rfl, h9 (4, .bool true) (by simp)⟩
  | false =>
    have h1 : decide (most S S ≥ 2) = true := by
      have := press_meet S hS2 (fun h => by have := hap.2 h; cases this)
      simp; omega
    refine tw_seq (step ok19 h8 fun d => reg19_f h1 hsl hpr hqp hpl fun s9 h9 => then_normal (tw_ret ?_))
    exact ⟨(s9.tm.get 4).getD undef, by kernel_rfl, h9 (4, .bool true) (by simp)⟩
end Me
end Go.Proofs.Ytahikechkggbfaa
