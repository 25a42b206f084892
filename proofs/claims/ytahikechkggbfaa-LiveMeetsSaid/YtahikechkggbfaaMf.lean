/- LiveMeets: the loops. -/
import Derived.Test.YtahikechkggbfaaMd
import Derived.Test.YtahikechkggbfaaMp
namespace Go.Proofs.Ytahikechkggbfaa
open Go Go.Ev
set_option linter.unusedVariables false
set_option linter.unusedSimpArgs false
set_option maxRecDepth 100000
namespace Me
theorem kget {s : St} {L : List (Nat × Value)} {i : Nat} {v : Value} (hk : Knows s L) (hm : (i, v) ∈ L) : aeval s.tm (.tmp i) = some v := congrArg some (hk (i, v) hm)
theorem kn_tail {s : St} {x : Nat × Value} {L : List (Nat × Value)} (h : Knows s (x :: L)) : Knows s L := fun p hp => h p (by simp [hp])
theorem step {w0 : World} {c : Code} {Q : Xt → St → Prop} {s : St} {L : List (Nat × Value)} (hok : codeOk T1 c = true) (hk : Knows s L) (h : ∀ d, A1 c Q L d s.H) : Tw Try.prog 145 w0 c Q s :=
  tw_form L (by omega) hk fun d => tw_aw progOk1 hok (h d)
theorem tw_hwf {P : Program} {n : Nat} {w0 : World} {c : Code} {Q : Xt → St → Prop} {s : St} (h : HWf s.H → Tw P n w0 c Q s) : Tw P n w0 c Q s := fun m a w hs => h hs.hwf m a w hs
theorem ok0 : codeOk T1 a0 = true := by kernel_rfl
theorem ok1 : codeOk T1 a1 = true := by kernel_rfl
theorem ok2 : codeOk T1 a2 = true := by kernel_rfl
theorem ok3 : codeOk T1 a3 = true := by kernel_rfl
theorem ok4 : codeOk T1 a4 = true := by kernel_rfl
theorem ok5 : codeOk T1 a5 = true := by kernel_rfl
theorem ok6 : codeOk T1 a6 = true := by kernel_rfl
theorem ok7 : codeOk T1 a7 = true := by kernel_rfl
theorem ok8 : codeOk T1 a8 = true := by kernel_rfl
theorem ok9 : codeOk T1 a9 = true := by kernel_rfl
theorem ok10 : codeOk T1 a10 = true := by kernel_rfl
theorem ok11 : codeOk T1 a11 = true := by kernel_rfl
theorem ok12 : codeOk T1 a12 = true := by kernel_rfl
theorem ok13 : codeOk T1 a13 = true := by kernel_rfl
theorem ok14 : codeOk T1 a14 = true := by kernel_rfl
theorem ok16 : codeOk T1 a16 = true := by kernel_rfl
theorem ok17 : codeOk T1 a17 = true := by kernel_rfl
theorem ok18 : codeOk T1 a18 = true := by kernel_rfl
theorem ok19 : codeOk T1 a19 = true := by kernel_rfl
theorem wrap1 (k : Nat) (h : k ≤ 1000) : IntKind.i64.wrap ((k : Int) + 1) = ((k + 1 : Nat) : Int) := by rw [IntKind.wrap_i64]; omega
theorem ivs_len (S : List IV) : (ivs S).length = S.length * 3 := flat_length IV.cells 3 (fun _ => rfl) S
theorem ivs_at (S : List IV) (i : Nat) (h : i < S.length) : ((ivs S).drop (0 + i * 3)).take 3 = [.int .i64 S[i].v, .int .i64 S[i].f, .int .i64 S[i].t] := by
  have hA : SlAt ⟨.nd .lf (some ⟨ivs S, 40, false⟩) .lf, 1⟩ (some ⟨0, 0, none⟩) (S.flatMap IV.cells) := fun _ => ⟨0, 0, _, rfl, by show 0 < 1; omega, rfl, fun i x hx => by rw [Nat.zero_add]; exact hx⟩
  obtain ⟨b, off, ob, e1, _, e2, e3⟩ := SlAt.take IV.cells 3 (by omega) (fun _ => rfl) hA i h
  cases e1
  cases e2
  exact e3
theorem loop1 {w0 : World} {K : St → Prop} {Q0 : Xt → St → Prop} {H0 : Heap} {a : Option Addr} {cap : Nat} {l : List (Int × Int)} {n : Int} (hA : SlAt H0 a (spans l)) (hi : ∀ p ∈ l, isInt p.1 ∧ isInt p.2) {s : St}
    (hs : Knows s (L0 a l.length cap n (.slice none 0 0) 0)) (hH : s.H = H0)
    (hK : ∀ s' k v, k ≤ l.length → k ≤ 25 → Knows s' (L0 a l.length cap n v k) → Row H0 s'.H v k (ivs (sS l k)) → Ext H0 s'.H → K s') : Tw Try.prog 145 w0 (.loop L1) (Xt.inBlock 0 (Xt.then K Q0)) s := by
  refine tw_loop (fun m s => ∃ k v, k ≤ l.length ∧ k ≤ 25 ∧ m = 25 - k ∧ Knows s (L0 a l.length cap n v k) ∧ Row H0 s.H v k (ivs (sS l k)) ∧ Ext H0 s.H) 25 ⟨0, _, by omega, by omega, rfl, hs, Or.inl ⟨rfl, rfl⟩, by rw [hH]; exact Ext.refl _⟩ ?_
  rintro m s ⟨k, v, hkl, hk25, rfl, hkn, hrow, hE⟩
  rw [eL1]
  refine tw_seq (tw_seq ?_)
  by_cases hlt : k < l.length
  · refine step ok3 hkn fun d => reg3_t (by simp [hlt]) fun s1 h1 e1 => then_normal ?_
    refine tw_cond (kget (v := .bool (decide ((k : Int) < 25))) h1 (by simp)) ?_
    by_cases h25 : k < 25
    · rw [show decide ((k : Int) < 25) = true from by simp; omega]
      refine tw_skip (then_normal (tw_seq (tw_block (tw_seq ?_))))
      have hE1 : Ext H0 s1.H := by rw [e1]; exact hE
      have hrow1 : Row H0 s1.H v k (ivs (sS l k)) := by rw [e1]; exact hrow
      obtain ⟨b, off, ob, rfl, hb, hob, hcl⟩ := SlAt.take (fun p : Int × Int => [Value.int .i64 p.1, Value.int .i64 p.2]) 2 (by omega) (fun _ => rfl) (hA.ext hE1) k hlt
      have hc0 : ob.cells[off + k * 2]? = some (.int .i64 l[k].1) := by
        have := congrArg (fun z : List Value => z[0]?) hcl
        simpa [List.getElem?_take, List.getElem?_drop] using this
      have hc1 : ob.cells[off + k * 2 + 1]? = some (.int .i64 l[k].2) := by
        have := congrArg (fun z : List Value => z[1]?) hcl
        simpa [List.getElem?_take, List.getElem?_drop] using this
      obtain ⟨j0, j1⟩ := hi l[k] (List.getElem_mem hlt)
      unfold isInt at j0 j1
      have hi0 : inB l[k].1 0 40 = true := by simp [inB]; omega
      have hi1 : inB l[k].2 1 9 = true := by simp [inB]; omega
      have hblt : k.blt l.length = true := by rw [blt_dec]; simp [hlt]
      refine step ok5 (kn_tail h1) fun d => reg5 (F := l[k].1 % 41) hblt hob hc0 hi0 (by simp) fun s2 h2 e2 => then_normal ?_
      have hob2 : s2.H.get b = some ob := by rw [e2]; exact hob
      have hE2 : Ext H0 s2.H := by rw [e2]; exact hE1
      have hrow2 : Row H0 s2.H v k (ivs (sS l k)) := by rw [e2]; exact hrow1
      have w1 : (1 : Int) + l[k].2 % (9 - 1 + 1) = 1 + l[k].2 % 9 := by simp
      have r0 := Int.emod_nonneg l[k].1 (by omega : (41 : Int) ≠ 0)
      have r0' := Int.emod_lt_of_pos l[k].1 (by omega : (0 : Int) < 41)
      have r1 := Int.emod_nonneg l[k].2 (by omega : (9 : Int) ≠ 0)
      have r1' := Int.emod_lt_of_pos l[k].2 (by omega : (0 : Int) < 9)
      have w2 : IntKind.i64.wrap (l[k].1 % 41 + (1 + l[k].2 % (9 - 1 + 1))) = l[k].1 % 41 + (1 + l[k].2 % 9) := by rw [w1, IntKind.wrap_i64]; omega
      have hmk : mkS l k = ⟨k, l[k].1 % 41, l[k].1 % 41 + (1 + l[k].2 % 9)⟩ := by
        unfold mkS
        have e0 : l.getD k (0, 0) = l[k] := by rw [List.getD_eq_getElem?_getD, List.getElem?_eq_getElem hlt]; rfl
        rw [e0]
      have hcells : [Value.int .i64 (k : Int), .int .i64 (l[k].1 % 41), .int .i64 (IntKind.i64.wrap (l[k].1 % 41 + (1 + l[k].2 % (9 - 1 + 1))))] = IV.cells (mkS l k) := by rw [hmk, w2]; rfl
      have hsn := sS_snoc l k
      obtain ⟨v', H', happ, hr', hE'⟩ : ∃ v' H', aappend T1 31 31 v (.slice (some ⟨s2.H.n, 0, none⟩) 1 1) (s2.H.push ⟨[.int .i64 (k : Int), .int .i64 (l[k].1 % 41), .int .i64 (IntKind.i64.wrap (l[k].1 % 41 + (1 + l[k].2 % (9 - 1 + 1))))], 40, false⟩) = some (v', H') ∧ Row H0 H' v' (k + 1) (ivs (sS l (k + 1))) ∧ Ext H0 H' := by
        have hn := hE2.n
        rcases hrow2 with ⟨hk0, rfl⟩ | ⟨hk0, B, rfl, hB, hBn, hBo⟩
        · refine ⟨_, _, app_nil _ _ _ _, Or.inr ⟨by omega, s2.H.n + 1, by rw [hk0], by omega, by simp [Heap.n_push], ?_⟩, (hE2.push _).push _⟩
          rw [Heap.get_push, if_pos (by simp [Heap.n_push]), hsn, hcells]
          have h0 : ivs (sS l k) = [] := by subst hk0; rfl
          rw [h0]; rfl
        · refine ⟨_, _, app_grow _ B k _ _ _ _ hBn hBo (by rw [ivs_len, sS_length]) (by omega), Or.inr ⟨by omega, s2.H.n + 1, rfl, by omega, by simp [Heap.n_push, Heap.n_kill], ?_⟩, ((hE2.push _).kill (by omega)).push _⟩
          rw [Heap.get_push, if_pos (by simp [Heap.n_push, Heap.n_kill]), hsn, hcells]
      refine step ok6 h2 fun d => reg6 v' H' hblt hob2 hc1 hi1 happ fun s3 h3 e3 => blk_normal (then_normal ?_)
      refine step ok4 h3 fun d => reg4 fun s4 h4 e4 => then_normal ⟨25 - (k + 1), by omega, k + 1, v', by omega, by omega, rfl, ?_, by rw [e4, e3]; exact hr', by rw [e4, e3]; exact hE'⟩
      rw [wrap1 k (by omega)] at h4
      exact h4
    · rw [show decide ((k : Int) < 25) = false from by simp; omega]
      exact tw_exit (then_exit (then_exit (blk_hit (then_normal (hK s1 k v hkl hk25 (kn_tail h1) (by rw [e1]; exact hrow) (by rw [e1]; exact hE))))))
  · refine step ok3 hkn fun d => reg3_f (by simp; omega) fun s1 h1 e1 => then_normal ?_
    refine tw_cond (kget (v := .bool false) h1 (by simp)) ?_
    exact tw_exit (then_exit (then_exit (blk_hit (then_normal (hK s1 k v hkl hk25 (kn_tail h1) (by rw [e1]; exact hrow) (by rw [e1]; exact hE))))))
section
variable {w0 : World} {S : List IV} {H1 : Heap} {B : Nat} {n : Int}
theorem loop3 {Qb : Xt → St → Prop} (hS : S.length ≤ 1000) (hob : H1.get B = some ⟨ivs S, 40, false⟩) {i : Nat} (hi : i < S.length) {s : St} {ap : Bool} (hs : Knows s (N0 n (Rw B S.length) ap i 0)) (hH : s.H = H1) (hap : ap = true ↔ Apart S i 0)
    (hK : ∀ s' ap', Knows s' (M0 n (Rw B S.length) ap' i) → s'.H = H1 → (ap' = true ↔ Apart S i S.length) → Qb .normal s') : Tw Try.prog 145 w0 (.loop L3) (Xt.inBlock 4 Qb) s := by
  refine tw_loop (fun m s => ∃ k ap, k ≤ S.length ∧ m = S.length - k ∧ Knows s (N0 n (Rw B S.length) ap i k) ∧ s.H = H1 ∧ (ap = true ↔ Apart S i k)) S.length ⟨0, ap, by omega, by omega, hs, hH, hap⟩ ?_
  rintro m s ⟨k, ap, hk, rfl, hkn, hH, hap⟩
  rw [eL3]
  refine tw_seq (tw_seq ?_)
  refine step ok12 hkn fun d => reg12 fun s1 h1 e1 => then_normal ?_
  refine tw_cond (kget (v := .bool (decide ((k : Int) < (S.length : Int)))) h1 (by simp)) ?_
  by_cases hlt : k < S.length
  · rw [show decide ((k : Int) < (S.length : Int)) = true from by simp [hlt]]
    refine tw_skip (then_normal (tw_seq (tw_block (tw_seq (tw_seq ?_)))))
    have hbi : i.blt S.length = true := by rw [blt_dec]; simp [hi]
    have hbk : k.blt S.length = true := by rw [blt_dec]; simp [hlt]
    have ci := ivs_at S i hi
    have ck := ivs_at S k hlt
    have hb1 : s1.H.get B = some ⟨ivs S, 40, false⟩ := by rw [e1, hH]; exact hob
    have tail : ∀ (s2 : St) (ap2 : Bool), Knows s2 (N0 n (Rw B S.length) ap2 i k) → s2.H = H1 → (ap2 = true ↔ Apart S i (k + 1)) → Tw Try.prog 145 w0 a13 (Xt.then (fun s' => ∃ m', m' < S.length - k ∧ ∃ k ap, k ≤ S.length ∧ m' = S.length - k ∧ Knows s' (N0 n (Rw B S.length) ap i k) ∧ s'.H = H1 ∧ (ap = true ↔ Apart S i k)) (Xt.inBlock 4 Qb)) s2 := by
      intro s2 ap2 h2 e2 hap2
      refine step ok13 h2 fun d => reg13 fun s3 h3 e3 => then_normal ⟨S.length - (k + 1), by omega, k + 1, ap2, by omega, rfl, ?_, by rw [e3, e2], hap2⟩
      rw [wrap1 k (by omega)] at h3
      intro p hp
      refine h3 p ?_
      simp only [List.mem_cons] at hp ⊢
      rcases hp with h | h | h | h | h | h | h
      · exact .inr (.inl h)
      · exact .inr (.inr (.inl h))
      · exact .inr (.inr (.inr (.inl h)))
      · exact .inr (.inr (.inr (.inr (.inl h))))
      · exact .inr (.inr (.inr (.inr (.inr (.inl h)))))
      · exact .inl h
      · cases h
    have hst := apart_step S i k hi hlt
    by_cases hik : i = k
    · have hb : ((i : Int) == (k : Int)) = true := by simp [hik]
      have hm : meetB S[i].f S[i].t S[k].f S[k].t = true := by subst hik; unfold meetB; simp
      refine step ok14 (kn_tail h1) fun d => reg14_eq hbi hbk hb1 ci ck hb hm fun s2 h2 e2 => then_normal ?_
      refine tw_cond (kget (v := .bool false) h2 (by simp)) (tw_skip (then_normal ?_))
      cases ap with
      | false => exact step ok16 (kn_tail h2) fun d => reg16_f fun s3 h3 e3 => blk_normal (then_normal (tail s3 false h3 (by rw [e3, e2, e1, hH]) (by rw [hst, ← hap]; simp)))
      | true => exact step ok16 (kn_tail h2) fun d => reg16_eq hb fun s3 h3 e3 => blk_normal (then_normal (tail s3 true h3 (by rw [e3, e2, e1, hH]) (by rw [hst, ← hap]; simp [hik])))
    · have hb : ((i : Int) == (k : Int)) = false := by simp; omega
      refine step ok14 (kn_tail h1) fun d => reg14_ne hbi hbk hb1 ci ck hb fun s2 h2 e2 => then_normal ?_
      refine tw_cond (kget (v := .bool false) h2 (by simp)) (tw_skip (then_normal ?_))
      cases ap with
      | false => exact step ok16 (kn_tail h2) fun d => reg16_f fun s3 h3 e3 => blk_normal (then_normal (tail s3 false h3 (by rw [e3, e2, e1, hH]) (by rw [hst, ← hap]; simp)))
      | true =>
        refine step ok16 (kn_tail h2) fun d => reg16_ne hbi hbk (by rw [e2]; exact hb1) ci ck hb fun s3 h3 e3 => blk_normal (then_normal (tail s3 _ h3 (by rw [e3, e2, e1, hH]) ?_))
        rw [hst, ← hap]
        simp [hik]
  · rw [show decide ((k : Int) < (S.length : Int)) = false from by simp; omega]
    have : k = S.length := by omega
    subst this
    refine tw_exit (then_exit (then_exit (blk_hit (hK s1 ap ?_ (by rw [e1]; exact hH) hap))))
    intro p hp
    refine h1 p ?_
    simp only [List.mem_cons] at hp ⊢
    rcases hp with h | h | h | h | h | h
    · exact .inr (.inl h)
    · exact .inr (.inr (.inl h))
    · exact .inr (.inr (.inr (.inl h)))
    · exact .inr (.inr (.inr (.inr (.inl h))))
    · exact .inr (.inr (.inr (.inr (.inr (.inl h)))))
    · cases h
theorem loop2 {K : St → Prop} {Q0 : Xt → St → Prop} {c : Option Addr} {cv : Nat} (hS : S.length ≤ 1000) (hv : 0 < S.length → ∃ B, c = some ⟨B, 0, none⟩ ∧ cv = unk + 3 ∧ H1.get B = some ⟨ivs S, 40, false⟩) {s : St}
    (hs : Knows s (M0 n (.slice c S.length cv) true 0)) (hH : s.H = H1)
    (hK : ∀ s' ap, Knows s' (P0 n (.slice c S.length cv) ap) → s'.H = H1 → (ap = true ↔ Apart S S.length 0) → K s') : Tw Try.prog 145 w0 (.loop L2) (Xt.inBlock 2 (Xt.then K Q0)) s := by
  refine tw_loop (fun m s => ∃ i ap, i ≤ S.length ∧ m = S.length - i ∧ Knows s (M0 n (.slice c S.length cv) ap i) ∧ s.H = H1 ∧ (ap = true ↔ Apart S i 0)) S.length ⟨0, true, by omega, by omega, hs, hH, by simp [apart_zero]⟩ ?_
  rintro m s ⟨i, ap, hi, rfl, hkn, hH, hap⟩
  rw [eL2]
  refine tw_seq (tw_seq ?_)
  refine step ok9 hkn fun d => reg9 fun s1 h1 e1 => then_normal ?_
  refine tw_cond (kget (v := .bool (decide ((i : Int) < (S.length : Int)))) h1 (by simp)) ?_
  by_cases hlt : i < S.length
  · rw [show decide ((i : Int) < (S.length : Int)) = true from by simp [hlt]]
    obtain ⟨B, rfl, rfl, hob⟩ := hv (by omega)
    refine tw_skip (then_normal (tw_seq (tw_block (tw_seq ?_))))
    refine step ok11 (kn_tail h1) fun d => reg11 fun s2 h2 e2 => then_normal ?_
    refine tw_block (loop3 hS hob hlt (ap := ap) h2 (by rw [e2, e1, hH]) hap fun s3 ap3 h3 e3 hap3 => blk_normal (then_normal ?_))
    refine step ok10 h3 fun d => reg10 fun s4 h4 e4 => then_normal ⟨S.length - (i + 1), by omega, i + 1, ap3, by omega, rfl, ?_, by rw [e4, e3], by rw [hap3]; exact apart_row S i⟩
    rw [wrap1 i (by omega)] at h4
    exact h4
  · rw [show decide ((i : Int) < (S.length : Int)) = false from by simp; omega]
    have : i = S.length := by omega
    subst this
    refine tw_exit (then_exit (then_exit (blk_hit (then_normal (hK s1 ap ?_ (by rw [e1]; exact hH) hap)))))
    intro p hp
    refine h1 p ?_
    simp only [List.mem_cons] at hp ⊢
    rcases hp with h | h | h | h | h
    · exact .inr (.inl h)
    · exact .inr (.inr (.inl h))
    · exact .inr (.inr (.inr (.inl h)))
    · exact .inr (.inr (.inr (.inr (.inl h))))
    · cases h
end
end Me
end Go.Proofs.Ytahikechkggbfaa
