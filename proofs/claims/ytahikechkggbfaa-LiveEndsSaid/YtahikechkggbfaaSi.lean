/- Chapter 20: LiveEnds. -/
import Derived.Test.YtahikechkggbfaaSh
namespace Go.Proofs.Ytahikechkggbfaa
open Go Go.Ev Go.RowKit Lm
set_option linter.unusedVariables false
set_option linter.unusedSimpArgs false
set_option maxRecDepth 100000
namespace Ls
def outU (u : List Bool) (xs : List Int) : List Bool := xs.foldl (fun u x => u.set x.toNat true) u
def codeU (c : List II) (u : List Bool) : Nat → List Bool
  | 0 => u
  | k + 1 => match c[k]? with | some x => if x.1 = 3 ∨ x.1 = 4 then ((codeU c u k).set x.2.2.1.toNat true).set x.2.2.2.1.toNat true else codeU c u k | none => codeU c u k
@[simp] theorem outU_len : ∀ (xs : List Int) (u : List Bool), (outU u xs).length = u.length
  | [], u => rfl
  | x :: xs, u => by show (outU (u.set x.toNat true) xs).length = _; rw [outU_len xs]; simp
@[simp] theorem codeU_len (c : List II) (u : List Bool) : ∀ k, (codeU c u k).length = u.length
  | 0 => rfl
  | k + 1 => by unfold codeU; split; (split <;> simp [codeU_len c u k]); exact codeU_len c u k
theorem outU_succ {u : List Bool} {xs : List Int} {j : Nat} {x : Int} (h : xs[j]? = some x) : (outU u (xs.take j)).set x.toNat true = outU u (xs.take (j + 1)) := by unfold outU; rw [List.take_add_one, h]; simp
theorem codeU_use {c : List II} {u : List Bool} {k : Nat} {x : II} (h : c[k]? = some x) (hx : x.1 = 3 ∨ x.1 = 4) : codeU c u (k + 1) = ((codeU c u k).set x.2.2.1.toNat true).set x.2.2.2.1.toNat true := by show (match c[k]? with | some x => _ | none => _) = _; rw [h]; exact if_pos hx
theorem codeU_no {c : List II} {u : List Bool} {k : Nat} {x : II} (h : c[k]? = some x) (hx : ¬ (x.1 = 3 ∨ x.1 = 4)) : codeU c u (k + 1) = codeU c u k := by show (match c[k]? with | some x => _ | none => _) = _; rw [h]; exact if_neg hx
structure Us (u : List Bool) (S : Nat → Prop) : Prop where
  at_ : ∀ (i : Nat) (q : Bool), u[i]? = some q → (q = true ↔ S i)
theorem Us.mono {u : List Bool} {S S' : Nat → Prop} (h : Us u S) (hs : ∀ i, S i ↔ S' i) : Us u S' := ⟨fun i q hq => (h.at_ i q hq).trans (hs i)⟩
theorem us_rep (n : Nat) : Us (List.replicate n false) (fun _ => False) := ⟨fun i q h => by
  have := (List.getElem?_eq_some_iff.1 h).2
  simp at this
  subst this
  simp⟩
theorem Us.set {u : List Bool} {S : Nat → Prop} (h : Us u S) (x : Nat) : Us (u.set x true) (fun i => S i ∨ i = x) := ⟨fun i q hq => by
  rw [List.getElem?_set] at hq
  split at hq
  · split at hq
    · cases hq; simp; right; omega
    · cases hq
  · rw [h.at_ i q hq]; constructor
    · exact .inl
    · rintro (h | h)
      · exact h
      · omega⟩
theorem us_out : ∀ (xs : List Int) {u : List Bool} {S : Nat → Prop}, Us u S → (∀ x ∈ xs, 0 ≤ x) → Us (outU u xs) (fun i => S i ∨ (i : Int) ∈ xs)
  | [], u, S, h, _ => h.mono fun i => by simp
  | x :: xs, u, S, h, hx => by
    have x1 := hx x (List.mem_cons_self ..)
    refine (us_out xs (h.set x.toNat) (fun y hy => hx y (List.mem_cons_of_mem _ hy))).mono fun i => ?_
    simp only [List.mem_cons]
    constructor
    · rintro ((h | h) | h)
      · exact .inl h
      · exact .inr (.inl (by omega))
      · exact .inr (.inr h)
    · rintro (h | h | h)
      · exact .inl (.inl h)
      · exact .inl (.inr (by omega))
      · exact .inr h
theorem us_code {c : List II} {nd nr : Int} (hc : ∀ (k : Nat) (x : II), c[k]? = some x → madeB nd nr x k = true) {u : List Bool} {S : Nat → Prop} (h : Us u S) : ∀ k, k ≤ c.length → Us (codeU c u k) (fun i => S i ∨ cu c k i) := by
  intro k
  induction k with
  | zero => exact fun _ => h.mono fun i => ⟨.inl, fun q => q.elim id fun ⟨j, _, h, _⟩ => by omega⟩
  | succ k ih =>
    intro hk
    have hx : c[k]? = some (c[k]'(by omega)) := List.getElem?_eq_getElem _
    generalize c[k]'(by omega) = x at hx
    have h0 := ih (by omega)
    by_cases hop : x.1 = 3 ∨ x.1 = 4
    · obtain ⟨⟨a1, a2⟩, b1, b2⟩ := made_ab (hc k x hx) hop
      rw [codeU_use hx hop]
      refine ((h0.set _).set _).mono fun i => ⟨?_, ?_⟩
      · rintro (((h | ⟨j, y, h1, h2, h3, h4⟩) | h) | h)
        · exact .inl h
        · exact .inr ⟨j, y, by omega, h2, h3, h4⟩
        · exact .inr ⟨k, x, by omega, hx, hop, .inl (by omega)⟩
        · exact .inr ⟨k, x, by omega, hx, hop, .inr (by omega)⟩
      · rintro (h | ⟨j, y, h1, h2, h3, h4⟩)
        · exact .inl (.inl (.inl h))
        · by_cases hj : j = k
          · subst hj; rw [hx] at h2; cases h2
            rcases h4 with h4 | h4
            · exact .inl (.inr (by omega))
            · exact .inr (by omega)
          · exact .inl (.inl (.inr ⟨j, y, by omega, h2, h3, h4⟩))
    · rw [codeU_no hx hop]
      refine h0.mono fun i => ⟨?_, ?_⟩
      · rintro (h | ⟨j, y, h1, h2, h3, h4⟩)
        · exact .inl h
        · exact .inr ⟨j, y, by omega, h2, h3, h4⟩
      · rintro (h | ⟨j, y, h1, h2, h3, h4⟩)
        · exact .inl h
        · by_cases hj : j = k
          · subst hj; rw [hx] at h2; cases h2; exact absurd h3 hop
          · exact .inr ⟨j, y, by omega, h2, h3, h4⟩
/-- What is used, as the flags' value says so. -/
def flU (u : List Bool) (f : Int) : List Bool := if 0 ≤ f then u.set f.toNat true else u
@[simp] theorem flU_len (u : List Bool) (f : Int) : (flU u f).length = u.length := by unfold flU; split <;> simp
theorem us_fl {u : List Bool} {S : Nat → Prop} (h : Us u S) (f : Int) : Us (flU u f) (fun i => S i ∨ (i : Int) = f) := by
  unfold flU
  split
  · exact (h.set _).mono fun i => by constructor <;> (rintro (h | h); exact .inl h; exact .inr (by omega))
  · exact h.mono fun i => ⟨.inl, fun q => q.elim id fun q => by omega⟩
theorem ends_at {c : List II} {o : List Int} {f : Int} (h : RightP c o [] 0 0 0 0 f (-1) 0 1 (c.length : Int)) {i : Nat} {b : IV} {q : Bool} (hb : (ofL c o [] f (-1))[i]? = some b) (hq : (codeU c (flU (outU (List.replicate c.length false) o) f) c.length)[i]? = some q) : b.1 = (i : Int) ∧ b.2.1 = (i : Int) ∧ ((decide (b.2.2 > b.2.1) != q) = false) := by
  obtain ⟨h1, h2, h3, h4, h5, _⟩ := (iv_of h).at_ i b hb
  have hu := (us_code h.code (us_fl (us_out o (us_rep c.length) (fun x hx => by obtain ⟨j, hj⟩ := List.getElem?_of_mem hx; exact (valB_iff.1 (h.od_ j x hj)).1)) f) c.length (Nat.le_refl _)).at_ i q hq
  refine ⟨h1, h2, ?_⟩
  rw [h2]
  have key : (i : Int) < b.2.2 ↔ q = true := by
    rw [h5, hu]
    constructor
    · rintro (h | h | h | h | h)
      · exact .inr h
      · exact .inl (.inl (.inr h))
      · exact absurd h (by simp)
      · exact .inl (.inr h)
      · omega
    · rintro (((h | h) | h) | h)
      · exact h.elim
      · exact .inr (.inl h)
      · exact .inr (.inr (.inr (.inl h)))
      · exact .inl h
  cases q <;> simp at key ⊢ <;> omega
theorem left_at {c : List II} {o : List Int} {f : Int} (h : RightP c o [] 0 0 0 0 f (-1) 0 1 (c.length : Int)) {i : Nat} {b : IV} (hb : (ofL c o [] f (-1))[i]? = some b) (hi : (i : Int) ∈ o ∨ (i : Int) = f) : b.2.2 = (c.length : Int) := by
  obtain ⟨_, _, _, h4, _, h6⟩ := (iv_of h).at_ i b hb
  have := h6 (c.length : Int) (.inr ⟨by rcases hi with h | h; exact .inl h; exact .inr (.inr (.inl h)), rfl⟩)
  omega
noncomputable def f6b : Code := Try.f6.body.getD .skip
theorem f6_body : Try.f6.body = some f6b := by kernel_rfl
theorem f6_fn : T3.fn 6 = some Try.f6 := by kernel_rfl
set_option maxHeartbeats 4000000 in
theorem ends_s {ops az bs outs : List Int} {fl : Int} {wr : Bool} (hr1 : ∀ x ∈ ops, i64B x = true) (hr2 : ∀ x ∈ az, i64B x = true) (hr3 : ∀ x ∈ bs, i64B x = true) (hr4 : ∀ x ∈ outs, i64B x = true) (hf : i64B fl = true) (hl1 : ops.length ≤ 9223372036854775807) (hl2 : az.length ≤ 9223372036854775807) (hl3 : bs.length ≤ 9223372036854775807) (hl4 : outs.length ≤ 9223372036854775807) : SCall Try.prog T3 6 #[.agg #[.slice (some ⟨0, 0, none⟩) ops.length (unk + 1), .slice (some ⟨1, 0, none⟩) az.length (unk + 1), .slice (some ⟨2, 0, none⟩) bs.length (unk + 1), .slice (some ⟨3, 0, none⟩) outs.length (unk + 1), .int .i64 fl, .bool wr]] (hq [some ⟨(tab inC ops), 3, true⟩, some ⟨(tab inC az), 3, true⟩, some ⟨(tab inC bs), 3, true⟩, some ⟨(tab inC outs), 3, true⟩]) fun v h => v = .bool true ∧ h = hq [some ⟨(tab inC ops), 3, true⟩, some ⟨(tab inC az), 3, true⟩, some ⟨(tab inC bs), 3, true⟩, some ⟨(tab inC outs), 3, true⟩] := by
  obtain ⟨c, hc⟩ : ∃ c, c = mkC ops az bs (mkN ops az bs) := ⟨_, rfl⟩
  obtain ⟨o, ho⟩ : ∃ o, o = mkO outs (mkN ops az bs) (mkM outs (mkN ops az bs)) := ⟨_, rfl⟩
  obtain ⟨f, hff⟩ : ∃ f, f = mkF fl (mkN ops az bs) := ⟨_, rfl⟩
  have hR : RightP c o [] 0 0 0 0 f (-1) 0 1 (c.length : Int) := by rw [hc, ho, hff]; exact made_right ops az bs outs fl
  have hN30 : mkN ops az bs ≤ 30 := by unfold mkN; omega
  have hcl : c.length = mkN ops az bs := by rw [hc, mkC_len]
  have hol : o.length ≤ 6 := by rw [ho]; unfold mkO; simp; unfold mkM; split <;> omega
  have himm : ∀ x ∈ c, 0 ≤ x.2.2.2.2 ∧ x.2.2.2.2 < 4294967296 := by rw [hc]; exact made_imm ops az bs _ hN30
  rcases Bool.eq_false_or_eq_true wr with hwr | hwr
  · skip
    refine scall_sd 152 _ 4 (by kernel_rfl) f6_fn f6_body rfl rfl rfl fun X hX => ?_
    have hv : ((c.length : Nat) : Int) + 1 = mkW wr (mkN ops az bs) := by rw [hwr, hcl]; rfl
    refine sd_run 9 ?_
    refine sd_call 10 9 #[.agg #[.slice (some ⟨0, 0, none⟩) ops.length (unk + 1), .slice (some ⟨1, 0, none⟩) az.length (unk + 1), .slice (some ⟨2, 0, none⟩) bs.length (unk + 1), .slice (some ⟨3, 0, none⟩) outs.length (unk + 1), .int .i64 fl, .bool wr]] (made_s (c := c) (o := o) (f := f) (vs := ((c.length : Nat) : Int) + 1) (n := c.length) (m := o.length) (ops := ops) (az := az) (bs := bs) (outs := outs) (fl := fl) (wr := wr) hr1 hr2 hr3 hr4 hf hc ho hff hv rfl rfl) (emOf [some 0, some 1, some 2, some 3]) (by kernel_rfl) (by kernel_rfl) (by kernel_rfl) (hn_of 0 (by kernel_rfl) ⟨bk_flat (tab inC ops) (by kernel_rfl) (tab_plain inC_pl _) rfl, bk_flat (tab inC az) (by kernel_rfl) (tab_plain inC_pl _) rfl, bk_flat (tab inC bs) (by kernel_rfl) (tab_plain inC_pl _) rfl, bk_flat (tab inC outs) (by kernel_rfl) (tab_plain inC_pl _) rfl, True.intro⟩) (rnG_sound rn2_sound _ _ (by kernel_rfl)) ?_
    rintro v9 k9 ⟨rfl, rfl⟩
    refine ⟨.agg #[.slice (some ⟨5, 0, none⟩) c.length (unk + 5), .int .i64 0, .int .i64 0, .int .i64 0, .int .i64 0, .slice (some ⟨6, 0, none⟩) o.length (unk + 1), .slice none 0 0, .int .i64 f, .int .u32 0, .int .i64 (-1), .int .i64 0, .int .u32 0, .int .i64 1, .int .i64 (((c.length : Nat) : Int) + 1)], hq [some ⟨(tab inC ops), 3, true⟩, some ⟨(tab inC az), 3, true⟩, some ⟨(tab inC bs), 3, true⟩, some ⟨(tab inC outs), 3, true⟩, some ⟨[Value.slice (some ⟨0, 0, none⟩) ops.length (unk + 1), .slice (some ⟨1, 0, none⟩) az.length (unk + 1), .slice (some ⟨2, 0, none⟩) bs.length (unk + 1), .slice (some ⟨3, 0, none⟩) outs.length (unk + 1), .int .i64 fl, .bool wr], 24, false⟩, some ⟨(tab iiC c), 50, false⟩, some ⟨(tab inC o), 3, false⟩], glue_of (by kernel_rfl) (by kernel_rfl) ⟨cov_same 0 (hn_of 0 (by kernel_rfl) ⟨bk_flat (tab inC ops) (by kernel_rfl) (tab_plain inC_pl _) rfl, bk_flat (tab inC az) (by kernel_rfl) (tab_plain inC_pl _) rfl, bk_flat (tab inC bs) (by kernel_rfl) (tab_plain inC_pl _) rfl, bk_flat (tab inC outs) (by kernel_rfl) (tab_plain inC_pl _) rfl, True.intro⟩) (by kernel_rfl) (by kernel_rfl) (by kernel_rfl) (by kernel_rfl) (by kernel_rfl), cov_same 1 (hn_of 0 (by kernel_rfl) ⟨bk_flat (tab inC ops) (by kernel_rfl) (tab_plain inC_pl _) rfl, bk_flat (tab inC az) (by kernel_rfl) (tab_plain inC_pl _) rfl, bk_flat (tab inC bs) (by kernel_rfl) (tab_plain inC_pl _) rfl, bk_flat (tab inC outs) (by kernel_rfl) (tab_plain inC_pl _) rfl, True.intro⟩) (by kernel_rfl) (by kernel_rfl) (by kernel_rfl) (by kernel_rfl) (by kernel_rfl), cov_same 2 (hn_of 0 (by kernel_rfl) ⟨bk_flat (tab inC ops) (by kernel_rfl) (tab_plain inC_pl _) rfl, bk_flat (tab inC az) (by kernel_rfl) (tab_plain inC_pl _) rfl, bk_flat (tab inC bs) (by kernel_rfl) (tab_plain inC_pl _) rfl, bk_flat (tab inC outs) (by kernel_rfl) (tab_plain inC_pl _) rfl, True.intro⟩) (by kernel_rfl) (by kernel_rfl) (by kernel_rfl) (by kernel_rfl) (by kernel_rfl), cov_same 3 (hn_of 0 (by kernel_rfl) ⟨bk_flat (tab inC ops) (by kernel_rfl) (tab_plain inC_pl _) rfl, bk_flat (tab inC az) (by kernel_rfl) (tab_plain inC_pl _) rfl, bk_flat (tab inC bs) (by kernel_rfl) (tab_plain inC_pl _) rfl, bk_flat (tab inC outs) (by kernel_rfl) (tab_plain inC_pl _) rfl, True.intro⟩) (by kernel_rfl) (by kernel_rfl) (by kernel_rfl) (by kernel_rfl) (by kernel_rfl), cov_old (by kernel_rfl) (by kernel_rfl), cov_flat 4 (by kernel_rfl) (by kernel_rfl) (tab_plain iiC_pl _), cov_flat 5 (by kernel_rfl) (by kernel_rfl) (tab_plain inC_pl _), True.intro⟩, rn2_sound _ _ (by kernel_rfl), ?_⟩
    have hno : rightB c o [] 0 0 0 0 f (-1) 0 1 (((c.length : Nat) : Int) + 1) = false := rightB_no fun h9 => by have := h9.vs_; omega
    refine sd_run 7 ?_
    refine sd_callp 12 10 #[.agg #[.slice (some ⟨5, 0, none⟩) c.length (unk + 5), .int .i64 0, .int .i64 0, .int .i64 0, .int .i64 0, .slice (some ⟨6, 0, none⟩) o.length (unk + 1), .slice none 0 0, .int .i64 f, .int .u32 0, .int .i64 (-1), .int .i64 0, .int .u32 0, .int .i64 1, .int .i64 (((c.length : Nat) : Int) + 1)]] (of_no (c := c) (nd := 0) (nr := 0) (hd := 0) (hr := 0) (od := o) (rd := []) (fl := f) (nx := 0) (tg := (-1)) (br := 0) (tk := 0) (ct := 1) (vs := (((c.length : Nat) : Int) + 1)) hno (by omega) (by omega) (by simp) himm) [some 5, some 6, none] (by kernel_rfl) (by kernel_rfl) (by kernel_rfl) (hn_of 0 (by kernel_rfl) ⟨bk_flat (tab iiC c) (by kernel_rfl) (tab_plain iiC_pl _) rfl, bk_flat (tab inC o) (by kernel_rfl) (tab_plain inC_pl _) rfl, rfl, True.intro⟩) (by kernel_rfl) ?_
    rintro v9 k9 ⟨rfl, rfl⟩
    refine ⟨rfl, .slice none 0 0, (by kernel_rfl), ?_⟩
    refine sd_run 10 ?_
    refine sd_see 14 (.bool true) (see_bool (by kernel_rfl) (hwr : (wr) = true)) ?_
    refine sd_run 14 ?_
    refine sd_end (.bool true) hX (by kernel_rfl) (by kernel_rfl) (by kernel_rfl) (.bool true) (hq [some ⟨(tab inC ops), 3, true⟩, some ⟨(tab inC az), 3, true⟩, some ⟨(tab inC bs), 3, true⟩, some ⟨(tab inC outs), 3, true⟩]) (emOf [some 0, some 1, some 2, some 3]) (sub_of (by kernel_rfl) (by kernel_rfl) ⟨bk_flat (tab inC ops) (by kernel_rfl) (tab_plain inC_pl _) rfl, bk_flat (tab inC az) (by kernel_rfl) (tab_plain inC_pl _) rfl, bk_flat (tab inC bs) (by kernel_rfl) (tab_plain inC_pl _) rfl, bk_flat (tab inC outs) (by kernel_rfl) (tab_plain inC_pl _) rfl, True.intro⟩) (rn2_sound _ _ (by kernel_rfl)) ⟨rfl, rfl⟩
  · skip
    refine scall_sd 152 _ 4 (by kernel_rfl) f6_fn f6_body rfl rfl rfl fun X hX => ?_
    have hv : ((c.length : Nat) : Int) = mkW wr (mkN ops az bs) := by rw [hwr, hcl]; rfl
    refine sd_run 9 ?_
    refine sd_call 10 9 #[.agg #[.slice (some ⟨0, 0, none⟩) ops.length (unk + 1), .slice (some ⟨1, 0, none⟩) az.length (unk + 1), .slice (some ⟨2, 0, none⟩) bs.length (unk + 1), .slice (some ⟨3, 0, none⟩) outs.length (unk + 1), .int .i64 fl, .bool wr]] (made_s (c := c) (o := o) (f := f) (vs := ((c.length : Nat) : Int)) (n := c.length) (m := o.length) (ops := ops) (az := az) (bs := bs) (outs := outs) (fl := fl) (wr := wr) hr1 hr2 hr3 hr4 hf hc ho hff hv rfl rfl) (emOf [some 0, some 1, some 2, some 3]) (by kernel_rfl) (by kernel_rfl) (by kernel_rfl) (hn_of 0 (by kernel_rfl) ⟨bk_flat (tab inC ops) (by kernel_rfl) (tab_plain inC_pl _) rfl, bk_flat (tab inC az) (by kernel_rfl) (tab_plain inC_pl _) rfl, bk_flat (tab inC bs) (by kernel_rfl) (tab_plain inC_pl _) rfl, bk_flat (tab inC outs) (by kernel_rfl) (tab_plain inC_pl _) rfl, True.intro⟩) (rnG_sound rn2_sound _ _ (by kernel_rfl)) ?_
    rintro v9 k9 ⟨rfl, rfl⟩
    refine ⟨.agg #[.slice (some ⟨5, 0, none⟩) c.length (unk + 5), .int .i64 0, .int .i64 0, .int .i64 0, .int .i64 0, .slice (some ⟨6, 0, none⟩) o.length (unk + 1), .slice none 0 0, .int .i64 f, .int .u32 0, .int .i64 (-1), .int .i64 0, .int .u32 0, .int .i64 1, .int .i64 ((c.length : Nat) : Int)], hq [some ⟨(tab inC ops), 3, true⟩, some ⟨(tab inC az), 3, true⟩, some ⟨(tab inC bs), 3, true⟩, some ⟨(tab inC outs), 3, true⟩, some ⟨[Value.slice (some ⟨0, 0, none⟩) ops.length (unk + 1), .slice (some ⟨1, 0, none⟩) az.length (unk + 1), .slice (some ⟨2, 0, none⟩) bs.length (unk + 1), .slice (some ⟨3, 0, none⟩) outs.length (unk + 1), .int .i64 fl, .bool wr], 24, false⟩, some ⟨(tab iiC c), 50, false⟩, some ⟨(tab inC o), 3, false⟩], glue_of (by kernel_rfl) (by kernel_rfl) ⟨cov_same 0 (hn_of 0 (by kernel_rfl) ⟨bk_flat (tab inC ops) (by kernel_rfl) (tab_plain inC_pl _) rfl, bk_flat (tab inC az) (by kernel_rfl) (tab_plain inC_pl _) rfl, bk_flat (tab inC bs) (by kernel_rfl) (tab_plain inC_pl _) rfl, bk_flat (tab inC outs) (by kernel_rfl) (tab_plain inC_pl _) rfl, True.intro⟩) (by kernel_rfl) (by kernel_rfl) (by kernel_rfl) (by kernel_rfl) (by kernel_rfl), cov_same 1 (hn_of 0 (by kernel_rfl) ⟨bk_flat (tab inC ops) (by kernel_rfl) (tab_plain inC_pl _) rfl, bk_flat (tab inC az) (by kernel_rfl) (tab_plain inC_pl _) rfl, bk_flat (tab inC bs) (by kernel_rfl) (tab_plain inC_pl _) rfl, bk_flat (tab inC outs) (by kernel_rfl) (tab_plain inC_pl _) rfl, True.intro⟩) (by kernel_rfl) (by kernel_rfl) (by kernel_rfl) (by kernel_rfl) (by kernel_rfl), cov_same 2 (hn_of 0 (by kernel_rfl) ⟨bk_flat (tab inC ops) (by kernel_rfl) (tab_plain inC_pl _) rfl, bk_flat (tab inC az) (by kernel_rfl) (tab_plain inC_pl _) rfl, bk_flat (tab inC bs) (by kernel_rfl) (tab_plain inC_pl _) rfl, bk_flat (tab inC outs) (by kernel_rfl) (tab_plain inC_pl _) rfl, True.intro⟩) (by kernel_rfl) (by kernel_rfl) (by kernel_rfl) (by kernel_rfl) (by kernel_rfl), cov_same 3 (hn_of 0 (by kernel_rfl) ⟨bk_flat (tab inC ops) (by kernel_rfl) (tab_plain inC_pl _) rfl, bk_flat (tab inC az) (by kernel_rfl) (tab_plain inC_pl _) rfl, bk_flat (tab inC bs) (by kernel_rfl) (tab_plain inC_pl _) rfl, bk_flat (tab inC outs) (by kernel_rfl) (tab_plain inC_pl _) rfl, True.intro⟩) (by kernel_rfl) (by kernel_rfl) (by kernel_rfl) (by kernel_rfl) (by kernel_rfl), cov_old (by kernel_rfl) (by kernel_rfl), cov_flat 4 (by kernel_rfl) (by kernel_rfl) (tab_plain iiC_pl _), cov_flat 5 (by kernel_rfl) (by kernel_rfl) (tab_plain inC_pl _), True.intro⟩, rn2_sound _ _ (by kernel_rfl), ?_⟩
    refine sd_run 7 ?_
    refine sd_call 12 10 #[.agg #[.slice (some ⟨5, 0, none⟩) c.length (unk + 5), .int .i64 0, .int .i64 0, .int .i64 0, .int .i64 0, .slice (some ⟨6, 0, none⟩) o.length (unk + 1), .slice none 0 0, .int .i64 f, .int .u32 0, .int .i64 (-1), .int .i64 0, .int .u32 0, .int .i64 1, .int .i64 ((c.length : Nat) : Int)]] (of_s (c := c) (nd := 0) (nr := 0) (hd := 0) (hr := 0) (od := o) (rd := []) (fl := f) (nx := 0) (tg := (-1)) (br := 0) (tk := 0) (ct := 1) hR (by omega) (by simp) himm) (emOf [some 5, some 6, none]) (by kernel_rfl) (by kernel_rfl) (by kernel_rfl) (hn_of 0 (by kernel_rfl) ⟨bk_flat (tab iiC c) (by kernel_rfl) (tab_plain iiC_pl _) rfl, bk_flat (tab inC o) (by kernel_rfl) (tab_plain inC_pl _) rfl, rfl, True.intro⟩) (rnG_sound rn2_sound _ _ (by kernel_rfl)) ?_
    rintro v9 k9 ⟨rfl, rfl⟩
    refine ⟨.slice (some ⟨8, 0, none⟩) c.length (unk + 3), hq [some ⟨(tab inC ops), 3, true⟩, some ⟨(tab inC az), 3, true⟩, some ⟨(tab inC bs), 3, true⟩, some ⟨(tab inC outs), 3, true⟩, some ⟨[Value.slice (some ⟨0, 0, none⟩) ops.length (unk + 1), .slice (some ⟨1, 0, none⟩) az.length (unk + 1), .slice (some ⟨2, 0, none⟩) bs.length (unk + 1), .slice (some ⟨3, 0, none⟩) outs.length (unk + 1), .int .i64 fl, .bool wr], 24, false⟩, some ⟨(tab iiC c), 50, false⟩, some ⟨(tab inC o), 3, false⟩, some ⟨[Value.slice (some ⟨5, 0, none⟩) c.length (unk + 5), .int .i64 0, .int .i64 0, .int .i64 0, .int .i64 0, .slice (some ⟨6, 0, none⟩) o.length (unk + 1), .slice none 0 0, .int .i64 f, .int .u32 0, .int .i64 (-1), .int .i64 0, .int .u32 0, .int .i64 1, .int .i64 ((c.length : Nat) : Int)], 29, false⟩, some ⟨(tab ivC (ofL c o [] f (-1))), 40, false⟩], glue_of (by kernel_rfl) (by kernel_rfl) ⟨cov_old (by kernel_rfl) (by kernel_rfl), cov_old (by kernel_rfl) (by kernel_rfl), cov_old (by kernel_rfl) (by kernel_rfl), cov_old (by kernel_rfl) (by kernel_rfl), cov_old (by kernel_rfl) (by kernel_rfl), cov_same 0 (hn_of 0 (by kernel_rfl) ⟨bk_flat (tab iiC c) (by kernel_rfl) (tab_plain iiC_pl _) rfl, bk_flat (tab inC o) (by kernel_rfl) (tab_plain inC_pl _) rfl, rfl, True.intro⟩) (by kernel_rfl) (by kernel_rfl) (by kernel_rfl) (by kernel_rfl) (by kernel_rfl), cov_same 1 (hn_of 0 (by kernel_rfl) ⟨bk_flat (tab iiC c) (by kernel_rfl) (tab_plain iiC_pl _) rfl, bk_flat (tab inC o) (by kernel_rfl) (tab_plain inC_pl _) rfl, rfl, True.intro⟩) (by kernel_rfl) (by kernel_rfl) (by kernel_rfl) (by kernel_rfl) (by kernel_rfl), cov_old (by kernel_rfl) (by kernel_rfl), cov_flat 3 (by kernel_rfl) (by kernel_rfl) (tab_plain ivC_pl _), True.intro⟩, rn2_sound _ _ (by kernel_rfl), ?_⟩
    refine sd_run 10 ?_
    refine sd_see 14 (.bool false) (see_bool (by kernel_rfl) (hwr : (wr) = false)) ?_
    refine sd_run 12 ?_
    refine sd_see 26 (.bool false) (see_bool (by kernel_rfl) ((bne_eq_false_iff_eq.2 (by omega)) : ((((c.length : Nat) : Int) != ((c.length : Nat) : Int))) = false)) ?_
    refine sd_run 9 ?_
    refine sd_make 29 48 4 1 c.length 9 .i64 .i64 [Value.bool false] (tab boC (List.replicate c.length false)) (by kernel_rfl) (by kernel_rfl) (by kernel_rfl) (by kernel_rfl) (by omega) (by omega) (by kernel_rfl) (tab_one (enc := boC) (a := false) rfl _) ?_
    refine sd_run 10 ?_
    refine sd_loop 152 (cl (cl (cr (cl (cr (cr (cr (cr (cr (cr f6b)))))))))) [.blk 0, .next (cr (cr (cr (cr (cr (cr (cr f6b)))))))] (by kernel_rfl) (by kernel_rfl) (by kernel_rfl) (fun m9 s9 => ∃ (j : Nat), m9 = o.length - j ∧ (j ≤ o.length) ∧ s9 = ⟨tmL [(3, .pointer (some ⟨7, 0, none⟩)), (4, .slice (some ⟨8, 0, none⟩) c.length (unk + 3)), (5, .slice (some ⟨9, 0, none⟩) c.length c.length), (6, .int .i64 ((j : Nat) : Int))], hq [some ⟨(tab inC ops), 3, true⟩, some ⟨(tab inC az), 3, true⟩, some ⟨(tab inC bs), 3, true⟩, some ⟨(tab inC outs), 3, true⟩, none, some ⟨(tab iiC c), 50, false⟩, some ⟨(tab inC o), 3, false⟩, some ⟨[Value.slice (some ⟨5, 0, none⟩) c.length (unk + 5), .int .i64 0, .int .i64 0, .int .i64 0, .int .i64 0, .slice (some ⟨6, 0, none⟩) o.length (unk + 1), .slice none 0 0, .int .i64 f, .int .u32 0, .int .i64 (-1), .int .i64 0, .int .u32 0, .int .i64 1, .int .i64 ((c.length : Nat) : Int)], 29, false⟩, some ⟨(tab ivC (ofL c o [] f (-1))), 40, false⟩, some ⟨(tab boC (outU (List.replicate c.length false) (o.take j))), 4, false⟩]⟩) (o.length - 0) _ (emOf [some 0, some 1, some 2, some 3, none, some 5, some 6, some 7, some 8, some 9]) hX ⟨0, rfl, (by omega), rfl⟩ ⟨sub_of (by kernel_rfl) (by kernel_rfl) ⟨bk_flat (tab inC ops) (by kernel_rfl) (tab_plain inC_pl _) rfl, bk_flat (tab inC az) (by kernel_rfl) (tab_plain inC_pl _) rfl, bk_flat (tab inC bs) (by kernel_rfl) (tab_plain inC_pl _) rfl, bk_flat (tab inC outs) (by kernel_rfl) (tab_plain inC_pl _) rfl, bk_flat (tab iiC c) (by kernel_rfl) (tab_plain iiC_pl _) rfl, bk_flat (tab inC o) (by kernel_rfl) (tab_plain inC_pl _) rfl, bk_ren (by kernel_rfl) (by kernel_rfl), bk_flat (tab ivC (ofL c o [] f (-1))) (by kernel_rfl) (tab_plain ivC_pl _) rfl, bk_flat (tab boC (List.replicate c.length false)) (by kernel_rfl) (tab_plain boC_pl _) (congrArg (tab boC) (by rfl)), True.intro⟩, te_of (by kernel_rfl) (by kernel_rfl)⟩ (by kernel_rfl) ?_
    rintro m9 s9 ⟨j, rfl, i1_0, rfl⟩ R1_ hR1_
    by_cases hlt : j < o.length
    · skip
      obtain ⟨a1, ha1⟩ : ∃ x_, (o)[j]? = some x_ := ⟨_, List.getElem?_eq_getElem (by omega)⟩
      obtain ⟨qa1, qa2⟩ := valB_iff.1 (hR.od_ j a1 ha1)
      obtain ⟨X, hX2⟩ := Int.eq_ofNat_of_zero_le qa1
      obtain ⟨a2, ha2⟩ : ∃ x_, (ofL c o [] f (-1))[X]? = some x_ := ⟨_, List.getElem?_eq_getElem (by simp; omega)⟩
      have hbn := left_at hR ha2 (.inl (by rw [← hX2]; exact List.mem_of_getElem? ha1))
      refine sd_run 8 ?_
      refine sd_see 34 (.bool true) (see_bool (by kernel_rfl) ((decide_eq_true (by omega)) : ((decide (((j : Nat) : Int) < ((o.length : Nat) : Int)))) = true)) ?_
      refine sd_run 14 ?_
      refine sd_ix 41 (.pointer (some ⟨6, 0 + j * 1, none⟩)) j o.length (by kernel_rfl) (by kernel_rfl) (by kernel_rfl) (by omega) ?_
      refine sd_ld 42 (.int .i64 a1) 3 (.pointer (some ⟨6, 0 + j * 1, none⟩)) (by kernel_rfl) (by kernel_rfl) (by kernel_rfl) (ld_cell (l := o) (e := 3) (ro := false) (k := j) (j := 0) inC_len (by kernel_rfl) (by kernel_rfl) (by kernel_rfl) ha1 rfl) ?_
      refine sd_see 42 (.int .i64 ((X : Nat) : Int)) (see_int (x := a1) (by kernel_rfl) hX2) ?_
      refine sd_ix 43 (.pointer (some ⟨8, 0 + X * 3, none⟩)) X c.length (by kernel_rfl) (by kernel_rfl) (by kernel_rfl) (by omega) ?_
      refine sd_run 1 ?_
      refine sd_ld 45 (.int .i64 a2.2.2) 3 (.pointer (some ⟨8, 0 + X * 3 + 2, none⟩)) (by kernel_rfl) (by kernel_rfl) (by kernel_rfl) (ld_cell (l := ofL c o [] f (-1)) (e := 40) (ro := false) (k := X) (j := 2) ivC_len (by kernel_rfl) (by kernel_rfl) (by kernel_rfl) ha2 rfl) ?_
      refine sd_see 45 (.int .i64 ((c.length : Nat) : Int)) (see_int (x := a2.2.2) (by kernel_rfl) hbn) ?_
      refine sd_run 3 ?_
      refine sd_see 48 (.bool false) (see_bool (by kernel_rfl) ((bne_eq_false_iff_eq.2 (by omega)) : ((((c.length : Nat) : Int) != ((c.length : Nat) : Int))) = false)) ?_
      refine sd_run 10 ?_
      refine sd_ix 53 (.pointer (some ⟨6, 0 + j * 1, none⟩)) j o.length (by kernel_rfl) (by kernel_rfl) (by kernel_rfl) (by omega) ?_
      refine sd_ld 54 (.int .i64 a1) 3 (.pointer (some ⟨6, 0 + j * 1, none⟩)) (by kernel_rfl) (by kernel_rfl) (by kernel_rfl) (ld_cell (l := o) (e := 3) (ro := false) (k := j) (j := 0) inC_len (by kernel_rfl) (by kernel_rfl) (by kernel_rfl) ha1 rfl) ?_
      refine sd_see 54 (.int .i64 ((X : Nat) : Int)) (see_int (x := a1) (by kernel_rfl) hX2) ?_
      refine sd_ix 55 (.pointer (some ⟨9, 0 + X * 1, none⟩)) X c.length (by kernel_rfl) (by kernel_rfl) (by kernel_rfl) (by omega) ?_
      obtain ⟨a3, ha3⟩ : ∃ x_, (outU (List.replicate c.length false) (o.take j))[X]? = some x_ := ⟨_, List.getElem?_eq_getElem (by simp; omega)⟩
      refine sd_st 4 9 (0 + X * 1) (.bool true) (tab boC ((outU (List.replicate c.length false) (o.take j)).set X true)) (cells := tab boC (outU (List.replicate c.length false) (o.take j))) (e := 4) (by kernel_rfl) (by kernel_rfl) (by kernel_rfl) (by kernel_rfl) (st_cell (k := X) (j := 0) (a' := true) boC_len (by kernel_rfl) (by kernel_rfl) ha3 (by kernel_rfl) rfl) ?_
      refine sd_run 6 ?_
      refine sd_see 36 (.int .i64 ((j + 1 : Nat) : Int)) (see_int (x := (IntKind.i64.wrap (((j : Nat) : Int) + 1))) (by kernel_rfl) (w64 (by omega) (by omega) (by omega))) ?_
      refine sd_run 2 ?_
      refine sd_inv R1_ (by kernel_rfl) (hR1_ _ (o.length - (j + 1)) _ (emOf [some 0, some 1, some 2, some 3, none, some 5, some 6, some 7, some 8, some 9]) (by omega) ⟨j + 1, rfl, (by omega), rfl⟩ ⟨sub_of (by kernel_rfl) (by kernel_rfl) ⟨bk_flat (tab inC ops) (by kernel_rfl) (tab_plain inC_pl _) rfl, bk_flat (tab inC az) (by kernel_rfl) (tab_plain inC_pl _) rfl, bk_flat (tab inC bs) (by kernel_rfl) (tab_plain inC_pl _) rfl, bk_flat (tab inC outs) (by kernel_rfl) (tab_plain inC_pl _) rfl, bk_flat (tab iiC c) (by kernel_rfl) (tab_plain iiC_pl _) rfl, bk_flat (tab inC o) (by kernel_rfl) (tab_plain inC_pl _) rfl, bk_ren (by kernel_rfl) (by kernel_rfl), bk_flat (tab ivC (ofL c o [] f (-1))) (by kernel_rfl) (tab_plain ivC_pl _) rfl, bk_flat (tab boC ((outU (List.replicate c.length false) (o.take j)).set X true)) (by kernel_rfl) (tab_plain boC_pl _) (congrArg (tab boC) (by rw [← outU_succ ha1, hX2]; rfl)), True.intro⟩, te_of (by kernel_rfl) (by kernel_rfl)⟩ (by kernel_rfl))
    · skip
      obtain rfl : j = o.length := by omega
      rcases hR.fl_ with hf1 | hf1
      · skip
        subst hf1
        refine sd_run 8 ?_
        refine sd_see 34 (.bool false) (see_bool (by kernel_rfl) ((decide_eq_false (by omega)) : ((decide (((o.length : Nat) : Int) < ((o.length : Nat) : Int)))) = false)) ?_
        refine sd_run 26 ?_
        refine sd_loop 152 (cl (cl (cr (cl (cr (cr (cr (cr (cr (cr (cr (cr f6b)))))))))))) [.blk 2, .next (cr (cr (cr (cr (cr (cr (cr (cr (cr f6b)))))))))] (by kernel_rfl) (by kernel_rfl) (by kernel_rfl) (fun m9 s9 => ∃ (k : Nat), m9 = c.length - k ∧ (k ≤ c.length) ∧ s9 = ⟨tmL [(3, .pointer (some ⟨7, 0, none⟩)), (4, .slice (some ⟨8, 0, none⟩) c.length (unk + 3)), (5, .slice (some ⟨9, 0, none⟩) c.length c.length), (7, .int .i64 ((k : Nat) : Int))], hq [some ⟨(tab inC ops), 3, true⟩, some ⟨(tab inC az), 3, true⟩, some ⟨(tab inC bs), 3, true⟩, some ⟨(tab inC outs), 3, true⟩, none, some ⟨(tab iiC c), 50, false⟩, some ⟨(tab inC o), 3, false⟩, some ⟨[Value.slice (some ⟨5, 0, none⟩) c.length (unk + 5), .int .i64 0, .int .i64 0, .int .i64 0, .int .i64 0, .slice (some ⟨6, 0, none⟩) o.length (unk + 1), .slice none 0 0, .int .i64 (-1), .int .u32 0, .int .i64 (-1), .int .i64 0, .int .u32 0, .int .i64 1, .int .i64 ((c.length : Nat) : Int)], 29, false⟩, some ⟨(tab ivC (ofL c o [] (-1) (-1))), 40, false⟩, some ⟨(tab boC (codeU c (flU (outU (List.replicate c.length false) o) (-1)) k)), 4, false⟩]⟩) (c.length - 0) _ (emOf [some 0, some 1, some 2, some 3, none, some 5, some 6, some 7, some 8, some 9]) hX ⟨0, rfl, (by omega), rfl⟩ ⟨sub_of (by kernel_rfl) (by kernel_rfl) ⟨bk_flat (tab inC ops) (by kernel_rfl) (tab_plain inC_pl _) rfl, bk_flat (tab inC az) (by kernel_rfl) (tab_plain inC_pl _) rfl, bk_flat (tab inC bs) (by kernel_rfl) (tab_plain inC_pl _) rfl, bk_flat (tab inC outs) (by kernel_rfl) (tab_plain inC_pl _) rfl, bk_flat (tab iiC c) (by kernel_rfl) (tab_plain iiC_pl _) rfl, bk_flat (tab inC o) (by kernel_rfl) (tab_plain inC_pl _) rfl, bk_ren (by kernel_rfl) (by kernel_rfl), bk_flat (tab ivC (ofL c o [] (-1) (-1))) (by kernel_rfl) (tab_plain ivC_pl _) rfl, bk_flat (tab boC (outU (List.replicate c.length false) (o.take o.length))) (by kernel_rfl) (tab_plain boC_pl _) (congrArg (tab boC) (by unfold flU; rw [if_neg (by omega), List.take_length]; rfl)), True.intro⟩, te_of (by kernel_rfl) (by kernel_rfl)⟩ (by kernel_rfl) ?_
        rintro m9 s9 ⟨k, rfl, i2_0, rfl⟩ R2_ hR2_
        by_cases hlt2 : k < c.length
        · skip
          obtain ⟨a4, ha4⟩ : ∃ x_, (c)[k]? = some x_ := ⟨_, List.getElem?_eq_getElem (by omega)⟩
          have hmd := hR.code k a4 ha4
          rcases (by omega : a4.1 = 3 ∨ a4.1 = 4 ∨ (a4.1 ≠ 3 ∧ a4.1 ≠ 4)) with hop | hop | hop
          · skip
            obtain ⟨⟨qa1, qa2⟩, qb1, qb2⟩ := made_ab hmd (by omega)
            obtain ⟨A, hA⟩ := Int.eq_ofNat_of_zero_le qa1
            obtain ⟨B, hB⟩ := Int.eq_ofNat_of_zero_le qb1
            refine sd_run 8 ?_
            refine sd_see 76 (.bool true) (see_bool (by kernel_rfl) ((decide_eq_true (by omega)) : ((decide (((k : Nat) : Int) < ((c.length : Nat) : Int)))) = true)) ?_
            refine sd_run 12 ?_
            refine sd_ix 82 (.pointer (some ⟨5, 0 + k * 5, none⟩)) k c.length (by kernel_rfl) (by kernel_rfl) (by kernel_rfl) (by omega) ?_
            refine sd_run 1 ?_
            refine sd_ld 84 (.int .i64 a4.1) 3 (.pointer (some ⟨5, 0 + k * 5, none⟩)) (by kernel_rfl) (by kernel_rfl) (by kernel_rfl) (ld_cell (l := c) (e := 50) (ro := false) (k := k) (j := 0) iiC_len (by kernel_rfl) (by kernel_rfl) (by kernel_rfl) ha4 rfl) ?_
            refine sd_see 84 (.int .i64 3) (see_int (x := a4.1) (by kernel_rfl) (by omega)) ?_
            refine sd_run 18 ?_
            refine sd_ix 99 (.pointer (some ⟨5, 0 + k * 5, none⟩)) k c.length (by kernel_rfl) (by kernel_rfl) (by kernel_rfl) (by omega) ?_
            refine sd_run 1 ?_
            refine sd_ld 101 (.int .i64 a4.2.2.1) 3 (.pointer (some ⟨5, 0 + k * 5 + 2, none⟩)) (by kernel_rfl) (by kernel_rfl) (by kernel_rfl) (ld_cell (l := c) (e := 50) (ro := false) (k := k) (j := 2) iiC_len (by kernel_rfl) (by kernel_rfl) (by kernel_rfl) ha4 rfl) ?_
            refine sd_see 101 (.int .i64 ((A : Nat) : Int)) (see_int (x := a4.2.2.1) (by kernel_rfl) hA) ?_
            refine sd_run 4 ?_
            refine sd_ix 106 (.pointer (some ⟨5, 0 + k * 5, none⟩)) k c.length (by kernel_rfl) (by kernel_rfl) (by kernel_rfl) (by omega) ?_
            refine sd_run 1 ?_
            refine sd_ld 108 (.int .i64 a4.2.2.2.1) 3 (.pointer (some ⟨5, 0 + k * 5 + 3, none⟩)) (by kernel_rfl) (by kernel_rfl) (by kernel_rfl) (ld_cell (l := c) (e := 50) (ro := false) (k := k) (j := 3) iiC_len (by kernel_rfl) (by kernel_rfl) (by kernel_rfl) ha4 rfl) ?_
            refine sd_see 108 (.int .i64 ((B : Nat) : Int)) (see_int (x := a4.2.2.2.1) (by kernel_rfl) hB) ?_
            refine sd_ix 109 (.pointer (some ⟨9, 0 + A * 1, none⟩)) A c.length (by kernel_rfl) (by kernel_rfl) (by kernel_rfl) (by omega) ?_
            obtain ⟨a5, ha5⟩ : ∃ x_, (codeU c (flU (outU (List.replicate c.length false) o) (-1)) k)[A]? = some x_ := ⟨_, List.getElem?_eq_getElem (by simp; omega)⟩
            refine sd_st 4 9 (0 + A * 1) (.bool true) (tab boC ((codeU c (flU (outU (List.replicate c.length false) o) (-1)) k).set A true)) (cells := tab boC (codeU c (flU (outU (List.replicate c.length false) o) (-1)) k)) (e := 4) (by kernel_rfl) (by kernel_rfl) (by kernel_rfl) (by kernel_rfl) (st_cell (k := A) (j := 0) (a' := true) boC_len (by kernel_rfl) (by kernel_rfl) ha5 (by kernel_rfl) rfl) ?_
            refine sd_ix 110 (.pointer (some ⟨9, 0 + B * 1, none⟩)) B c.length (by kernel_rfl) (by kernel_rfl) (by kernel_rfl) (by omega) ?_
            obtain ⟨a6, ha6⟩ : ∃ x_, (((codeU c (flU (outU (List.replicate c.length false) o) (-1)) k).set A true))[B]? = some x_ := ⟨_, List.getElem?_eq_getElem (by simp; omega)⟩
            refine sd_st 4 9 (0 + B * 1) (.bool true) (tab boC ((((codeU c (flU (outU (List.replicate c.length false) o) (-1)) k).set A true)).set B true)) (cells := tab boC ((codeU c (flU (outU (List.replicate c.length false) o) (-1)) k).set A true)) (e := 4) (by kernel_rfl) (by kernel_rfl) (by kernel_rfl) (by kernel_rfl) (st_cell (k := B) (j := 0) (a' := true) boC_len (by kernel_rfl) (by kernel_rfl) ha6 (by kernel_rfl) rfl) ?_
            refine sd_run 6 ?_
            refine sd_see 78 (.int .i64 ((k + 1 : Nat) : Int)) (see_int (x := (IntKind.i64.wrap (((k : Nat) : Int) + 1))) (by kernel_rfl) (w64 (by omega) (by omega) (by omega))) ?_
            refine sd_run 2 ?_
            refine sd_inv R2_ (by kernel_rfl) (hR2_ _ (c.length - (k + 1)) _ (emOf [some 0, some 1, some 2, some 3, none, some 5, some 6, some 7, some 8, some 9]) (by omega) ⟨k + 1, rfl, (by omega), rfl⟩ ⟨sub_of (by kernel_rfl) (by kernel_rfl) ⟨bk_flat (tab inC ops) (by kernel_rfl) (tab_plain inC_pl _) rfl, bk_flat (tab inC az) (by kernel_rfl) (tab_plain inC_pl _) rfl, bk_flat (tab inC bs) (by kernel_rfl) (tab_plain inC_pl _) rfl, bk_flat (tab inC outs) (by kernel_rfl) (tab_plain inC_pl _) rfl, bk_flat (tab iiC c) (by kernel_rfl) (tab_plain iiC_pl _) rfl, bk_flat (tab inC o) (by kernel_rfl) (tab_plain inC_pl _) rfl, bk_ren (by kernel_rfl) (by kernel_rfl), bk_flat (tab ivC (ofL c o [] (-1) (-1))) (by kernel_rfl) (tab_plain ivC_pl _) rfl, bk_flat (tab boC ((((codeU c (flU (outU (List.replicate c.length false) o) (-1)) k).set A true)).set B true)) (by kernel_rfl) (tab_plain boC_pl _) (congrArg (tab boC) (by rw [codeU_use ha4 (by omega), hA, hB]; rfl)), True.intro⟩, te_of (by kernel_rfl) (by kernel_rfl)⟩ (by kernel_rfl))
          · skip
            obtain ⟨⟨qa1, qa2⟩, qb1, qb2⟩ := made_ab hmd (by omega)
            obtain ⟨A, hA⟩ := Int.eq_ofNat_of_zero_le qa1
            obtain ⟨B, hB⟩ := Int.eq_ofNat_of_zero_le qb1
            refine sd_run 8 ?_
            refine sd_see 76 (.bool true) (see_bool (by kernel_rfl) ((decide_eq_true (by omega)) : ((decide (((k : Nat) : Int) < ((c.length : Nat) : Int)))) = true)) ?_
            refine sd_run 12 ?_
            refine sd_ix 82 (.pointer (some ⟨5, 0 + k * 5, none⟩)) k c.length (by kernel_rfl) (by kernel_rfl) (by kernel_rfl) (by omega) ?_
            refine sd_run 1 ?_
            refine sd_ld 84 (.int .i64 a4.1) 3 (.pointer (some ⟨5, 0 + k * 5, none⟩)) (by kernel_rfl) (by kernel_rfl) (by kernel_rfl) (ld_cell (l := c) (e := 50) (ro := false) (k := k) (j := 0) iiC_len (by kernel_rfl) (by kernel_rfl) (by kernel_rfl) ha4 rfl) ?_
            refine sd_see 84 (.int .i64 4) (see_int (x := a4.1) (by kernel_rfl) (by omega)) ?_
            refine sd_run 5 ?_
            refine sd_ix 90 (.pointer (some ⟨5, 0 + k * 5, none⟩)) k c.length (by kernel_rfl) (by kernel_rfl) (by kernel_rfl) (by omega) ?_
            refine sd_run 1 ?_
            refine sd_ld 92 (.int .i64 a4.1) 3 (.pointer (some ⟨5, 0 + k * 5, none⟩)) (by kernel_rfl) (by kernel_rfl) (by kernel_rfl) (ld_cell (l := c) (e := 50) (ro := false) (k := k) (j := 0) iiC_len (by kernel_rfl) (by kernel_rfl) (by kernel_rfl) ha4 rfl) ?_
            refine sd_see 92 (.int .i64 4) (see_int (x := a4.1) (by kernel_rfl) (by omega)) ?_
            refine sd_run 10 ?_
            refine sd_ix 99 (.pointer (some ⟨5, 0 + k * 5, none⟩)) k c.length (by kernel_rfl) (by kernel_rfl) (by kernel_rfl) (by omega) ?_
            refine sd_run 1 ?_
            refine sd_ld 101 (.int .i64 a4.2.2.1) 3 (.pointer (some ⟨5, 0 + k * 5 + 2, none⟩)) (by kernel_rfl) (by kernel_rfl) (by kernel_rfl) (ld_cell (l := c) (e := 50) (ro := false) (k := k) (j := 2) iiC_len (by kernel_rfl) (by kernel_rfl) (by kernel_rfl) ha4 rfl) ?_
            refine sd_see 101 (.int .i64 ((A : Nat) : Int)) (see_int (x := a4.2.2.1) (by kernel_rfl) hA) ?_
            refine sd_run 4 ?_
            refine sd_ix 106 (.pointer (some ⟨5, 0 + k * 5, none⟩)) k c.length (by kernel_rfl) (by kernel_rfl) (by kernel_rfl) (by omega) ?_
            refine sd_run 1 ?_
            refine sd_ld 108 (.int .i64 a4.2.2.2.1) 3 (.pointer (some ⟨5, 0 + k * 5 + 3, none⟩)) (by kernel_rfl) (by kernel_rfl) (by kernel_rfl) (ld_cell (l := c) (e := 50) (ro := false) (k := k) (j := 3) iiC_len (by kernel_rfl) (by kernel_rfl) (by kernel_rfl) ha4 rfl) ?_
            refine sd_see 108 (.int .i64 ((B : Nat) : Int)) (see_int (x := a4.2.2.2.1) (by kernel_rfl) hB) ?_
            refine sd_ix 109 (.pointer (some ⟨9, 0 + A * 1, none⟩)) A c.length (by kernel_rfl) (by kernel_rfl) (by kernel_rfl) (by omega) ?_
            obtain ⟨a7, ha7⟩ : ∃ x_, (codeU c (flU (outU (List.replicate c.length false) o) (-1)) k)[A]? = some x_ := ⟨_, List.getElem?_eq_getElem (by simp; omega)⟩
            refine sd_st 4 9 (0 + A * 1) (.bool true) (tab boC ((codeU c (flU (outU (List.replicate c.length false) o) (-1)) k).set A true)) (cells := tab boC (codeU c (flU (outU (List.replicate c.length false) o) (-1)) k)) (e := 4) (by kernel_rfl) (by kernel_rfl) (by kernel_rfl) (by kernel_rfl) (st_cell (k := A) (j := 0) (a' := true) boC_len (by kernel_rfl) (by kernel_rfl) ha7 (by kernel_rfl) rfl) ?_
            refine sd_ix 110 (.pointer (some ⟨9, 0 + B * 1, none⟩)) B c.length (by kernel_rfl) (by kernel_rfl) (by kernel_rfl) (by omega) ?_
            obtain ⟨a8, ha8⟩ : ∃ x_, (((codeU c (flU (outU (List.replicate c.length false) o) (-1)) k).set A true))[B]? = some x_ := ⟨_, List.getElem?_eq_getElem (by simp; omega)⟩
            refine sd_st 4 9 (0 + B * 1) (.bool true) (tab boC ((((codeU c (flU (outU (List.replicate c.length false) o) (-1)) k).set A true)).set B true)) (cells := tab boC ((codeU c (flU (outU (List.replicate c.length false) o) (-1)) k).set A true)) (e := 4) (by kernel_rfl) (by kernel_rfl) (by kernel_rfl) (by kernel_rfl) (st_cell (k := B) (j := 0) (a' := true) boC_len (by kernel_rfl) (by kernel_rfl) ha8 (by kernel_rfl) rfl) ?_
            refine sd_run 6 ?_
            refine sd_see 78 (.int .i64 ((k + 1 : Nat) : Int)) (see_int (x := (IntKind.i64.wrap (((k : Nat) : Int) + 1))) (by kernel_rfl) (w64 (by omega) (by omega) (by omega))) ?_
            refine sd_run 2 ?_
            refine sd_inv R2_ (by kernel_rfl) (hR2_ _ (c.length - (k + 1)) _ (emOf [some 0, some 1, some 2, some 3, none, some 5, some 6, some 7, some 8, some 9]) (by omega) ⟨k + 1, rfl, (by omega), rfl⟩ ⟨sub_of (by kernel_rfl) (by kernel_rfl) ⟨bk_flat (tab inC ops) (by kernel_rfl) (tab_plain inC_pl _) rfl, bk_flat (tab inC az) (by kernel_rfl) (tab_plain inC_pl _) rfl, bk_flat (tab inC bs) (by kernel_rfl) (tab_plain inC_pl _) rfl, bk_flat (tab inC outs) (by kernel_rfl) (tab_plain inC_pl _) rfl, bk_flat (tab iiC c) (by kernel_rfl) (tab_plain iiC_pl _) rfl, bk_flat (tab inC o) (by kernel_rfl) (tab_plain inC_pl _) rfl, bk_ren (by kernel_rfl) (by kernel_rfl), bk_flat (tab ivC (ofL c o [] (-1) (-1))) (by kernel_rfl) (tab_plain ivC_pl _) rfl, bk_flat (tab boC ((((codeU c (flU (outU (List.replicate c.length false) o) (-1)) k).set A true)).set B true)) (by kernel_rfl) (tab_plain boC_pl _) (congrArg (tab boC) (by rw [codeU_use ha4 (by omega), hA, hB]; rfl)), True.intro⟩, te_of (by kernel_rfl) (by kernel_rfl)⟩ (by kernel_rfl))
          · skip
            refine sd_run 8 ?_
            refine sd_see 76 (.bool true) (see_bool (by kernel_rfl) ((decide_eq_true (by omega)) : ((decide (((k : Nat) : Int) < ((c.length : Nat) : Int)))) = true)) ?_
            refine sd_run 12 ?_
            refine sd_ix 82 (.pointer (some ⟨5, 0 + k * 5, none⟩)) k c.length (by kernel_rfl) (by kernel_rfl) (by kernel_rfl) (by omega) ?_
            refine sd_run 1 ?_
            refine sd_ld 84 (.int .i64 a4.1) 3 (.pointer (some ⟨5, 0 + k * 5, none⟩)) (by kernel_rfl) (by kernel_rfl) (by kernel_rfl) (ld_cell (l := c) (e := 50) (ro := false) (k := k) (j := 0) iiC_len (by kernel_rfl) (by kernel_rfl) (by kernel_rfl) ha4 rfl) ?_
            refine sd_run 1 ?_
            refine sd_see 85 (.bool false) (see_bool (by kernel_rfl) ((beq_eq_false_iff_ne.2 (by omega)) : (((a4.1 : Int) == 3)) = false)) ?_
            refine sd_run 4 ?_
            refine sd_ix 90 (.pointer (some ⟨5, 0 + k * 5, none⟩)) k c.length (by kernel_rfl) (by kernel_rfl) (by kernel_rfl) (by omega) ?_
            refine sd_run 1 ?_
            refine sd_ld 92 (.int .i64 a4.1) 3 (.pointer (some ⟨5, 0 + k * 5, none⟩)) (by kernel_rfl) (by kernel_rfl) (by kernel_rfl) (ld_cell (l := c) (e := 50) (ro := false) (k := k) (j := 0) iiC_len (by kernel_rfl) (by kernel_rfl) (by kernel_rfl) ha4 rfl) ?_
            refine sd_run 1 ?_
            refine sd_see 93 (.bool false) (see_bool (by kernel_rfl) ((beq_eq_false_iff_ne.2 (by omega)) : (((a4.1 : Int) == 4)) = false)) ?_
            refine sd_run 10 ?_
            refine sd_see 78 (.int .i64 ((k + 1 : Nat) : Int)) (see_int (x := (IntKind.i64.wrap (((k : Nat) : Int) + 1))) (by kernel_rfl) (w64 (by omega) (by omega) (by omega))) ?_
            refine sd_run 2 ?_
            refine sd_inv R2_ (by kernel_rfl) (hR2_ _ (c.length - (k + 1)) _ (emOf [some 0, some 1, some 2, some 3, none, some 5, some 6, some 7, some 8, some 9]) (by omega) ⟨k + 1, rfl, (by omega), rfl⟩ ⟨sub_of (by kernel_rfl) (by kernel_rfl) ⟨bk_flat (tab inC ops) (by kernel_rfl) (tab_plain inC_pl _) rfl, bk_flat (tab inC az) (by kernel_rfl) (tab_plain inC_pl _) rfl, bk_flat (tab inC bs) (by kernel_rfl) (tab_plain inC_pl _) rfl, bk_flat (tab inC outs) (by kernel_rfl) (tab_plain inC_pl _) rfl, bk_flat (tab iiC c) (by kernel_rfl) (tab_plain iiC_pl _) rfl, bk_flat (tab inC o) (by kernel_rfl) (tab_plain inC_pl _) rfl, bk_ren (by kernel_rfl) (by kernel_rfl), bk_flat (tab ivC (ofL c o [] (-1) (-1))) (by kernel_rfl) (tab_plain ivC_pl _) rfl, bk_flat (tab boC (codeU c (flU (outU (List.replicate c.length false) o) (-1)) k)) (by kernel_rfl) (tab_plain boC_pl _) (congrArg (tab boC) (codeU_no ha4 (by omega)).symm), True.intro⟩, te_of (by kernel_rfl) (by kernel_rfl)⟩ (by kernel_rfl))
        · skip
          obtain rfl : k = c.length := by omega
          refine sd_run 8 ?_
          refine sd_see 76 (.bool false) (see_bool (by kernel_rfl) ((decide_eq_false (by omega)) : ((decide (((c.length : Nat) : Int) < ((c.length : Nat) : Int)))) = false)) ?_
          refine sd_run 15 ?_
          refine sd_loop 152 (cl (cl (cr (cl (cr (cr (cr (cr (cr (cr (cr (cr (cr f6b))))))))))))) [.blk 4, .next (cr (cr (cr (cr (cr (cr (cr (cr (cr (cr f6b))))))))))] (by kernel_rfl) (by kernel_rfl) (by kernel_rfl) (fun m9 s9 => ∃ (i : Nat), m9 = c.length - i ∧ (i ≤ c.length) ∧ s9 = ⟨tmL [(4, .slice (some ⟨8, 0, none⟩) c.length (unk + 3)), (5, .slice (some ⟨9, 0, none⟩) c.length c.length), (8, .int .i64 ((i : Nat) : Int))], hq [some ⟨(tab inC ops), 3, true⟩, some ⟨(tab inC az), 3, true⟩, some ⟨(tab inC bs), 3, true⟩, some ⟨(tab inC outs), 3, true⟩, none, none, none, none, some ⟨(tab ivC (ofL c o [] (-1) (-1))), 40, false⟩, some ⟨(tab boC (codeU c (flU (outU (List.replicate c.length false) o) (-1)) c.length)), 4, false⟩]⟩) (c.length - 0) _ (emOf [some 0, some 1, some 2, some 3, none, none, none, none, some 8, some 9]) hX ⟨0, rfl, (by omega), rfl⟩ ⟨sub_of (by kernel_rfl) (by kernel_rfl) ⟨bk_flat (tab inC ops) (by kernel_rfl) (tab_plain inC_pl _) rfl, bk_flat (tab inC az) (by kernel_rfl) (tab_plain inC_pl _) rfl, bk_flat (tab inC bs) (by kernel_rfl) (tab_plain inC_pl _) rfl, bk_flat (tab inC outs) (by kernel_rfl) (tab_plain inC_pl _) rfl, bk_flat (tab ivC (ofL c o [] (-1) (-1))) (by kernel_rfl) (tab_plain ivC_pl _) rfl, bk_flat (tab boC (codeU c (flU (outU (List.replicate c.length false) o) (-1)) c.length)) (by kernel_rfl) (tab_plain boC_pl _) rfl, True.intro⟩, te_of (by kernel_rfl) (by kernel_rfl)⟩ (by kernel_rfl) ?_
          rintro m9 s9 ⟨i, rfl, i3_0, rfl⟩ R3_ hR3_
          by_cases hlt3 : i < c.length
          · skip
            obtain ⟨a9, ha9⟩ : ∃ x_, (ofL c o [] (-1) (-1))[i]? = some x_ := ⟨_, List.getElem?_eq_getElem (by simp; omega)⟩
            obtain ⟨a10, ha10⟩ : ∃ x_, (codeU c (flU (outU (List.replicate c.length false) o) (-1)) c.length)[i]? = some x_ := ⟨_, List.getElem?_eq_getElem (by simp; omega)⟩
            obtain ⟨e1, e2, e3⟩ := ends_at hR ha9 ha10
            refine sd_run 7 ?_
            refine sd_see 114 (.bool true) (see_bool (by kernel_rfl) ((decide_eq_true (by omega)) : ((decide (((i : Nat) : Int) < ((c.length : Nat) : Int)))) = true)) ?_
            refine sd_run 11 ?_
            refine sd_ix 119 (.pointer (some ⟨8, 0 + i * 3, none⟩)) i c.length (by kernel_rfl) (by kernel_rfl) (by kernel_rfl) (by omega) ?_
            refine sd_run 1 ?_
            refine sd_ld 121 (.int .i64 a9.2.2) 3 (.pointer (some ⟨8, 0 + i * 3 + 2, none⟩)) (by kernel_rfl) (by kernel_rfl) (by kernel_rfl) (ld_cell (l := ofL c o [] (-1) (-1)) (e := 40) (ro := false) (k := i) (j := 2) ivC_len (by kernel_rfl) (by kernel_rfl) (by kernel_rfl) ha9 rfl) ?_
            refine sd_run 2 ?_
            refine sd_ix 124 (.pointer (some ⟨8, 0 + i * 3, none⟩)) i c.length (by kernel_rfl) (by kernel_rfl) (by kernel_rfl) (by omega) ?_
            refine sd_run 1 ?_
            refine sd_ld 126 (.int .i64 a9.2.1) 3 (.pointer (some ⟨8, 0 + i * 3 + 1, none⟩)) (by kernel_rfl) (by kernel_rfl) (by kernel_rfl) (ld_cell (l := ofL c o [] (-1) (-1)) (e := 40) (ro := false) (k := i) (j := 1) ivC_len (by kernel_rfl) (by kernel_rfl) (by kernel_rfl) ha9 rfl) ?_
            refine sd_run 3 ?_
            refine sd_ix 130 (.pointer (some ⟨9, 0 + i * 1, none⟩)) i c.length (by kernel_rfl) (by kernel_rfl) (by kernel_rfl) (by omega) ?_
            refine sd_ld 131 (.bool a10) 4 (.pointer (some ⟨9, 0 + i * 1, none⟩)) (by kernel_rfl) (by kernel_rfl) (by kernel_rfl) (ld_cell (l := codeU c (flU (outU (List.replicate c.length false) o) (-1)) c.length) (e := 4) (ro := false) (k := i) (j := 0) boC_len (by kernel_rfl) (by kernel_rfl) (by kernel_rfl) ha10 rfl) ?_
            refine sd_run 1 ?_
            refine sd_see 132 (.bool false) (see_bool (by kernel_rfl) (e3 : (((decide ((a9.2.2 : Int) > a9.2.1)) != a10)) = false)) ?_
            refine sd_run 3 ?_
            refine sd_ix 136 (.pointer (some ⟨8, 0 + i * 3, none⟩)) i c.length (by kernel_rfl) (by kernel_rfl) (by kernel_rfl) (by omega) ?_
            refine sd_run 1 ?_
            refine sd_ld 138 (.int .i64 a9.2.1) 3 (.pointer (some ⟨8, 0 + i * 3 + 1, none⟩)) (by kernel_rfl) (by kernel_rfl) (by kernel_rfl) (ld_cell (l := ofL c o [] (-1) (-1)) (e := 40) (ro := false) (k := i) (j := 1) ivC_len (by kernel_rfl) (by kernel_rfl) (by kernel_rfl) ha9 rfl) ?_
            refine sd_run 2 ?_
            refine sd_see 140 (.bool false) (see_bool (by kernel_rfl) ((bne_eq_false_iff_eq.2 e2) : (((a9.2.1 : Int) != ((i : Nat) : Int))) = false)) ?_
            refine sd_run 4 ?_
            refine sd_ix 145 (.pointer (some ⟨8, 0 + i * 3, none⟩)) i c.length (by kernel_rfl) (by kernel_rfl) (by kernel_rfl) (by omega) ?_
            refine sd_run 1 ?_
            refine sd_ld 147 (.int .i64 a9.1) 3 (.pointer (some ⟨8, 0 + i * 3, none⟩)) (by kernel_rfl) (by kernel_rfl) (by kernel_rfl) (ld_cell (l := ofL c o [] (-1) (-1)) (e := 40) (ro := false) (k := i) (j := 0) ivC_len (by kernel_rfl) (by kernel_rfl) (by kernel_rfl) ha9 rfl) ?_
            refine sd_run 2 ?_
            refine sd_see 149 (.bool false) (see_bool (by kernel_rfl) ((bne_eq_false_iff_eq.2 e1) : (((a9.1 : Int) != ((i : Nat) : Int))) = false)) ?_
            refine sd_run 10 ?_
            refine sd_see 116 (.int .i64 ((i + 1 : Nat) : Int)) (see_int (x := (IntKind.i64.wrap (((i : Nat) : Int) + 1))) (by kernel_rfl) (w64 (by omega) (by omega) (by omega))) ?_
            refine sd_run 2 ?_
            refine sd_inv R3_ (by kernel_rfl) (hR3_ _ (c.length - (i + 1)) _ (emOf [some 0, some 1, some 2, some 3, none, none, none, none, some 8, some 9]) (by omega) ⟨i + 1, rfl, (by omega), rfl⟩ ⟨sub_of (by kernel_rfl) (by kernel_rfl) ⟨bk_flat (tab inC ops) (by kernel_rfl) (tab_plain inC_pl _) rfl, bk_flat (tab inC az) (by kernel_rfl) (tab_plain inC_pl _) rfl, bk_flat (tab inC bs) (by kernel_rfl) (tab_plain inC_pl _) rfl, bk_flat (tab inC outs) (by kernel_rfl) (tab_plain inC_pl _) rfl, bk_flat (tab ivC (ofL c o [] (-1) (-1))) (by kernel_rfl) (tab_plain ivC_pl _) rfl, bk_flat (tab boC (codeU c (flU (outU (List.replicate c.length false) o) (-1)) c.length)) (by kernel_rfl) (tab_plain boC_pl _) rfl, True.intro⟩, te_of (by kernel_rfl) (by kernel_rfl)⟩ (by kernel_rfl))
          · skip
            obtain rfl : i = c.length := by omega
            refine sd_run 7 ?_
            refine sd_see 114 (.bool false) (see_bool (by kernel_rfl) ((decide_eq_false (by omega)) : ((decide (((c.length : Nat) : Int) < ((c.length : Nat) : Int)))) = false)) ?_
            refine sd_run 15 ?_
            refine sd_end (.bool true) hX (by kernel_rfl) (by kernel_rfl) (by kernel_rfl) (.bool true) (hq [some ⟨(tab inC ops), 3, true⟩, some ⟨(tab inC az), 3, true⟩, some ⟨(tab inC bs), 3, true⟩, some ⟨(tab inC outs), 3, true⟩]) (emOf [some 0, some 1, some 2, some 3]) (sub_of (by kernel_rfl) (by kernel_rfl) ⟨bk_flat (tab inC ops) (by kernel_rfl) (tab_plain inC_pl _) rfl, bk_flat (tab inC az) (by kernel_rfl) (tab_plain inC_pl _) rfl, bk_flat (tab inC bs) (by kernel_rfl) (tab_plain inC_pl _) rfl, bk_flat (tab inC outs) (by kernel_rfl) (tab_plain inC_pl _) rfl, True.intro⟩) (rn2_sound _ _ (by kernel_rfl)) ⟨rfl, rfl⟩
      · skip
        obtain ⟨qa1, qa2⟩ := valB_iff.1 hf1
        obtain ⟨X, rfl⟩ := Int.eq_ofNat_of_zero_le qa1
        obtain ⟨a11, ha11⟩ : ∃ x_, (ofL c o [] ((X : Nat) : Int) (-1))[X]? = some x_ := ⟨_, List.getElem?_eq_getElem (by simp; omega)⟩
        have hbn := left_at hR ha11 (.inr rfl)
        refine sd_run 8 ?_
        refine sd_see 34 (.bool false) (see_bool (by kernel_rfl) ((decide_eq_false (by omega)) : ((decide (((o.length : Nat) : Int) < ((o.length : Nat) : Int)))) = false)) ?_
        refine sd_run 14 ?_
        refine sd_see 58 (.bool true) (see_bool (by kernel_rfl) ((decide_eq_true (by omega)) : ((decide (((X : Nat) : Int) ≥ 0))) = true)) ?_
        refine sd_run 9 ?_
        refine sd_ix 62 (.pointer (some ⟨8, 0 + X * 3, none⟩)) X c.length (by kernel_rfl) (by kernel_rfl) (by kernel_rfl) (by omega) ?_
        refine sd_run 1 ?_
        refine sd_ld 64 (.int .i64 a11.2.2) 3 (.pointer (some ⟨8, 0 + X * 3 + 2, none⟩)) (by kernel_rfl) (by kernel_rfl) (by kernel_rfl) (ld_cell (l := ofL c o [] ((X : Nat) : Int) (-1)) (e := 40) (ro := false) (k := X) (j := 2) ivC_len (by kernel_rfl) (by kernel_rfl) (by kernel_rfl) ha11 rfl) ?_
        refine sd_see 64 (.int .i64 ((c.length : Nat) : Int)) (see_int (x := a11.2.2) (by kernel_rfl) hbn) ?_
        refine sd_run 3 ?_
        refine sd_see 67 (.bool false) (see_bool (by kernel_rfl) ((bne_eq_false_iff_eq.2 (by omega)) : ((((c.length : Nat) : Int) != ((c.length : Nat) : Int))) = false)) ?_
        refine sd_run 9 ?_
        refine sd_ix 71 (.pointer (some ⟨9, 0 + X * 1, none⟩)) X c.length (by kernel_rfl) (by kernel_rfl) (by kernel_rfl) (by omega) ?_
        obtain ⟨a12, ha12⟩ : ∃ x_, (outU (List.replicate c.length false) (o.take o.length))[X]? = some x_ := ⟨_, List.getElem?_eq_getElem (by simp; omega)⟩
        refine sd_st 4 9 (0 + X * 1) (.bool true) (tab boC ((outU (List.replicate c.length false) (o.take o.length)).set X true)) (cells := tab boC (outU (List.replicate c.length false) (o.take o.length))) (e := 4) (by kernel_rfl) (by kernel_rfl) (by kernel_rfl) (by kernel_rfl) (st_cell (k := X) (j := 0) (a' := true) boC_len (by kernel_rfl) (by kernel_rfl) ha12 (by kernel_rfl) rfl) ?_
        refine sd_run 9 ?_
        refine sd_loop 152 (cl (cl (cr (cl (cr (cr (cr (cr (cr (cr (cr (cr f6b)))))))))))) [.blk 2, .next (cr (cr (cr (cr (cr (cr (cr (cr (cr f6b)))))))))] (by kernel_rfl) (by kernel_rfl) (by kernel_rfl) (fun m9 s9 => ∃ (k : Nat), m9 = c.length - k ∧ (k ≤ c.length) ∧ s9 = ⟨tmL [(3, .pointer (some ⟨7, 0, none⟩)), (4, .slice (some ⟨8, 0, none⟩) c.length (unk + 3)), (5, .slice (some ⟨9, 0, none⟩) c.length c.length), (7, .int .i64 ((k : Nat) : Int))], hq [some ⟨(tab inC ops), 3, true⟩, some ⟨(tab inC az), 3, true⟩, some ⟨(tab inC bs), 3, true⟩, some ⟨(tab inC outs), 3, true⟩, none, some ⟨(tab iiC c), 50, false⟩, some ⟨(tab inC o), 3, false⟩, some ⟨[Value.slice (some ⟨5, 0, none⟩) c.length (unk + 5), .int .i64 0, .int .i64 0, .int .i64 0, .int .i64 0, .slice (some ⟨6, 0, none⟩) o.length (unk + 1), .slice none 0 0, .int .i64 ((X : Nat) : Int), .int .u32 0, .int .i64 (-1), .int .i64 0, .int .u32 0, .int .i64 1, .int .i64 ((c.length : Nat) : Int)], 29, false⟩, some ⟨(tab ivC (ofL c o [] ((X : Nat) : Int) (-1))), 40, false⟩, some ⟨(tab boC (codeU c (flU (outU (List.replicate c.length false) o) ((X : Nat) : Int)) k)), 4, false⟩]⟩) (c.length - 0) _ (emOf [some 0, some 1, some 2, some 3, none, some 5, some 6, some 7, some 8, some 9]) hX ⟨0, rfl, (by omega), rfl⟩ ⟨sub_of (by kernel_rfl) (by kernel_rfl) ⟨bk_flat (tab inC ops) (by kernel_rfl) (tab_plain inC_pl _) rfl, bk_flat (tab inC az) (by kernel_rfl) (tab_plain inC_pl _) rfl, bk_flat (tab inC bs) (by kernel_rfl) (tab_plain inC_pl _) rfl, bk_flat (tab inC outs) (by kernel_rfl) (tab_plain inC_pl _) rfl, bk_flat (tab iiC c) (by kernel_rfl) (tab_plain iiC_pl _) rfl, bk_flat (tab inC o) (by kernel_rfl) (tab_plain inC_pl _) rfl, bk_ren (by kernel_rfl) (by kernel_rfl), bk_flat (tab ivC (ofL c o [] ((X : Nat) : Int) (-1))) (by kernel_rfl) (tab_plain ivC_pl _) rfl, bk_flat (tab boC ((outU (List.replicate c.length false) (o.take o.length)).set X true)) (by kernel_rfl) (tab_plain boC_pl _) (congrArg (tab boC) (by unfold flU; rw [if_pos (by omega), List.take_length]; rfl)), True.intro⟩, te_of (by kernel_rfl) (by kernel_rfl)⟩ (by kernel_rfl) ?_
        rintro m9 s9 ⟨k, rfl, i4_0, rfl⟩ R4_ hR4_
        by_cases hlt2 : k < c.length
        · skip
          obtain ⟨a13, ha13⟩ : ∃ x_, (c)[k]? = some x_ := ⟨_, List.getElem?_eq_getElem (by omega)⟩
          have hmd := hR.code k a13 ha13
          rcases (by omega : a13.1 = 3 ∨ a13.1 = 4 ∨ (a13.1 ≠ 3 ∧ a13.1 ≠ 4)) with hop | hop | hop
          · skip
            obtain ⟨⟨qa1, qa2⟩, qb1, qb2⟩ := made_ab hmd (by omega)
            obtain ⟨A, hA⟩ := Int.eq_ofNat_of_zero_le qa1
            obtain ⟨B, hB⟩ := Int.eq_ofNat_of_zero_le qb1
            refine sd_run 8 ?_
            refine sd_see 76 (.bool true) (see_bool (by kernel_rfl) ((decide_eq_true (by omega)) : ((decide (((k : Nat) : Int) < ((c.length : Nat) : Int)))) = true)) ?_
            refine sd_run 12 ?_
            refine sd_ix 82 (.pointer (some ⟨5, 0 + k * 5, none⟩)) k c.length (by kernel_rfl) (by kernel_rfl) (by kernel_rfl) (by omega) ?_
            refine sd_run 1 ?_
            refine sd_ld 84 (.int .i64 a13.1) 3 (.pointer (some ⟨5, 0 + k * 5, none⟩)) (by kernel_rfl) (by kernel_rfl) (by kernel_rfl) (ld_cell (l := c) (e := 50) (ro := false) (k := k) (j := 0) iiC_len (by kernel_rfl) (by kernel_rfl) (by kernel_rfl) ha13 rfl) ?_
            refine sd_see 84 (.int .i64 3) (see_int (x := a13.1) (by kernel_rfl) (by omega)) ?_
            refine sd_run 18 ?_
            refine sd_ix 99 (.pointer (some ⟨5, 0 + k * 5, none⟩)) k c.length (by kernel_rfl) (by kernel_rfl) (by kernel_rfl) (by omega) ?_
            refine sd_run 1 ?_
            refine sd_ld 101 (.int .i64 a13.2.2.1) 3 (.pointer (some ⟨5, 0 + k * 5 + 2, none⟩)) (by kernel_rfl) (by kernel_rfl) (by kernel_rfl) (ld_cell (l := c) (e := 50) (ro := false) (k := k) (j := 2) iiC_len (by kernel_rfl) (by kernel_rfl) (by kernel_rfl) ha13 rfl) ?_
            refine sd_see 101 (.int .i64 ((A : Nat) : Int)) (see_int (x := a13.2.2.1) (by kernel_rfl) hA) ?_
            refine sd_run 4 ?_
            refine sd_ix 106 (.pointer (some ⟨5, 0 + k * 5, none⟩)) k c.length (by kernel_rfl) (by kernel_rfl) (by kernel_rfl) (by omega) ?_
            refine sd_run 1 ?_
            refine sd_ld 108 (.int .i64 a13.2.2.2.1) 3 (.pointer (some ⟨5, 0 + k * 5 + 3, none⟩)) (by kernel_rfl) (by kernel_rfl) (by kernel_rfl) (ld_cell (l := c) (e := 50) (ro := false) (k := k) (j := 3) iiC_len (by kernel_rfl) (by kernel_rfl) (by kernel_rfl) ha13 rfl) ?_
            refine sd_see 108 (.int .i64 ((B : Nat) : Int)) (see_int (x := a13.2.2.2.1) (by kernel_rfl) hB) ?_
            refine sd_ix 109 (.pointer (some ⟨9, 0 + A * 1, none⟩)) A c.length (by kernel_rfl) (by kernel_rfl) (by kernel_rfl) (by omega) ?_
            obtain ⟨a14, ha14⟩ : ∃ x_, (codeU c (flU (outU (List.replicate c.length false) o) ((X : Nat) : Int)) k)[A]? = some x_ := ⟨_, List.getElem?_eq_getElem (by simp; omega)⟩
            refine sd_st 4 9 (0 + A * 1) (.bool true) (tab boC ((codeU c (flU (outU (List.replicate c.length false) o) ((X : Nat) : Int)) k).set A true)) (cells := tab boC (codeU c (flU (outU (List.replicate c.length false) o) ((X : Nat) : Int)) k)) (e := 4) (by kernel_rfl) (by kernel_rfl) (by kernel_rfl) (by kernel_rfl) (st_cell (k := A) (j := 0) (a' := true) boC_len (by kernel_rfl) (by kernel_rfl) ha14 (by kernel_rfl) rfl) ?_
            refine sd_ix 110 (.pointer (some ⟨9, 0 + B * 1, none⟩)) B c.length (by kernel_rfl) (by kernel_rfl) (by kernel_rfl) (by omega) ?_
            obtain ⟨a15, ha15⟩ : ∃ x_, (((codeU c (flU (outU (List.replicate c.length false) o) ((X : Nat) : Int)) k).set A true))[B]? = some x_ := ⟨_, List.getElem?_eq_getElem (by simp; omega)⟩
            refine sd_st 4 9 (0 + B * 1) (.bool true) (tab boC ((((codeU c (flU (outU (List.replicate c.length false) o) ((X : Nat) : Int)) k).set A true)).set B true)) (cells := tab boC ((codeU c (flU (outU (List.replicate c.length false) o) ((X : Nat) : Int)) k).set A true)) (e := 4) (by kernel_rfl) (by kernel_rfl) (by kernel_rfl) (by kernel_rfl) (st_cell (k := B) (j := 0) (a' := true) boC_len (by kernel_rfl) (by kernel_rfl) ha15 (by kernel_rfl) rfl) ?_
            refine sd_run 6 ?_
            refine sd_see 78 (.int .i64 ((k + 1 : Nat) : Int)) (see_int (x := (IntKind.i64.wrap (((k : Nat) : Int) + 1))) (by kernel_rfl) (w64 (by omega) (by omega) (by omega))) ?_
            refine sd_run 2 ?_
            refine sd_inv R4_ (by kernel_rfl) (hR4_ _ (c.length - (k + 1)) _ (emOf [some 0, some 1, some 2, some 3, none, some 5, some 6, some 7, some 8, some 9]) (by omega) ⟨k + 1, rfl, (by omega), rfl⟩ ⟨sub_of (by kernel_rfl) (by kernel_rfl) ⟨bk_flat (tab inC ops) (by kernel_rfl) (tab_plain inC_pl _) rfl, bk_flat (tab inC az) (by kernel_rfl) (tab_plain inC_pl _) rfl, bk_flat (tab inC bs) (by kernel_rfl) (tab_plain inC_pl _) rfl, bk_flat (tab inC outs) (by kernel_rfl) (tab_plain inC_pl _) rfl, bk_flat (tab iiC c) (by kernel_rfl) (tab_plain iiC_pl _) rfl, bk_flat (tab inC o) (by kernel_rfl) (tab_plain inC_pl _) rfl, bk_ren (by kernel_rfl) (by kernel_rfl), bk_flat (tab ivC (ofL c o [] ((X : Nat) : Int) (-1))) (by kernel_rfl) (tab_plain ivC_pl _) rfl, bk_flat (tab boC ((((codeU c (flU (outU (List.replicate c.length false) o) ((X : Nat) : Int)) k).set A true)).set B true)) (by kernel_rfl) (tab_plain boC_pl _) (congrArg (tab boC) (by rw [codeU_use ha13 (by omega), hA, hB]; rfl)), True.intro⟩, te_of (by kernel_rfl) (by kernel_rfl)⟩ (by kernel_rfl))
          · skip
            obtain ⟨⟨qa1, qa2⟩, qb1, qb2⟩ := made_ab hmd (by omega)
            obtain ⟨A, hA⟩ := Int.eq_ofNat_of_zero_le qa1
            obtain ⟨B, hB⟩ := Int.eq_ofNat_of_zero_le qb1
            refine sd_run 8 ?_
            refine sd_see 76 (.bool true) (see_bool (by kernel_rfl) ((decide_eq_true (by omega)) : ((decide (((k : Nat) : Int) < ((c.length : Nat) : Int)))) = true)) ?_
            refine sd_run 12 ?_
            refine sd_ix 82 (.pointer (some ⟨5, 0 + k * 5, none⟩)) k c.length (by kernel_rfl) (by kernel_rfl) (by kernel_rfl) (by omega) ?_
            refine sd_run 1 ?_
            refine sd_ld 84 (.int .i64 a13.1) 3 (.pointer (some ⟨5, 0 + k * 5, none⟩)) (by kernel_rfl) (by kernel_rfl) (by kernel_rfl) (ld_cell (l := c) (e := 50) (ro := false) (k := k) (j := 0) iiC_len (by kernel_rfl) (by kernel_rfl) (by kernel_rfl) ha13 rfl) ?_
            refine sd_see 84 (.int .i64 4) (see_int (x := a13.1) (by kernel_rfl) (by omega)) ?_
            refine sd_run 5 ?_
            refine sd_ix 90 (.pointer (some ⟨5, 0 + k * 5, none⟩)) k c.length (by kernel_rfl) (by kernel_rfl) (by kernel_rfl) (by omega) ?_
            refine sd_run 1 ?_
            refine sd_ld 92 (.int .i64 a13.1) 3 (.pointer (some ⟨5, 0 + k * 5, none⟩)) (by kernel_rfl) (by kernel_rfl) (by kernel_rfl) (ld_cell (l := c) (e := 50) (ro := false) (k := k) (j := 0) iiC_len (by kernel_rfl) (by kernel_rfl) (by kernel_rfl) ha13 rfl) ?_
            refine sd_see 92 (.int .i64 4) (see_int (x := a13.1) (by kernel_rfl) (by omega)) ?_
            refine sd_run 10 ?_
            refine sd_ix 99 (.pointer (some ⟨5, 0 + k * 5, none⟩)) k c.length (by kernel_rfl) (by kernel_rfl) (by kernel_rfl) (by omega) ?_
            refine sd_run 1 ?_
            refine sd_ld 101 (.int .i64 a13.2.2.1) 3 (.pointer (some ⟨5, 0 + k * 5 + 2, none⟩)) (by kernel_rfl) (by kernel_rfl) (by kernel_rfl) (ld_cell (l := c) (e := 50) (ro := false) (k := k) (j := 2) iiC_len (by kernel_rfl) (by kernel_rfl) (by kernel_rfl) ha13 rfl) ?_
            refine sd_see 101 (.int .i64 ((A : Nat) : Int)) (see_int (x := a13.2.2.1) (by kernel_rfl) hA) ?_
            refine sd_run 4 ?_
            refine sd_ix 106 (.pointer (some ⟨5, 0 + k * 5, none⟩)) k c.length (by kernel_rfl) (by kernel_rfl) (by kernel_rfl) (by omega) ?_
            refine sd_run 1 ?_
            refine sd_ld 108 (.int .i64 a13.2.2.2.1) 3 (.pointer (some ⟨5, 0 + k * 5 + 3, none⟩)) (by kernel_rfl) (by kernel_rfl) (by kernel_rfl) (ld_cell (l := c) (e := 50) (ro := false) (k := k) (j := 3) iiC_len (by kernel_rfl) (by kernel_rfl) (by kernel_rfl) ha13 rfl) ?_
            refine sd_see 108 (.int .i64 ((B : Nat) : Int)) (see_int (x := a13.2.2.2.1) (by kernel_rfl) hB) ?_
            refine sd_ix 109 (.pointer (some ⟨9, 0 + A * 1, none⟩)) A c.length (by kernel_rfl) (by kernel_rfl) (by kernel_rfl) (by omega) ?_
            obtain ⟨a16, ha16⟩ : ∃ x_, (codeU c (flU (outU (List.replicate c.length false) o) ((X : Nat) : Int)) k)[A]? = some x_ := ⟨_, List.getElem?_eq_getElem (by simp; omega)⟩
            refine sd_st 4 9 (0 + A * 1) (.bool true) (tab boC ((codeU c (flU (outU (List.replicate c.length false) o) ((X : Nat) : Int)) k).set A true)) (cells := tab boC (codeU c (flU (outU (List.replicate c.length false) o) ((X : Nat) : Int)) k)) (e := 4) (by kernel_rfl) (by kernel_rfl) (by kernel_rfl) (by kernel_rfl) (st_cell (k := A) (j := 0) (a' := true) boC_len (by kernel_rfl) (by kernel_rfl) ha16 (by kernel_rfl) rfl) ?_
            refine sd_ix 110 (.pointer (some ⟨9, 0 + B * 1, none⟩)) B c.length (by kernel_rfl) (by kernel_rfl) (by kernel_rfl) (by omega) ?_
            obtain ⟨a17, ha17⟩ : ∃ x_, (((codeU c (flU (outU (List.replicate c.length false) o) ((X : Nat) : Int)) k).set A true))[B]? = some x_ := ⟨_, List.getElem?_eq_getElem (by simp; omega)⟩
            refine sd_st 4 9 (0 + B * 1) (.bool true) (tab boC ((((codeU c (flU (outU (List.replicate c.length false) o) ((X : Nat) : Int)) k).set A true)).set B true)) (cells := tab boC ((codeU c (flU (outU (List.replicate c.length false) o) ((X : Nat) : Int)) k).set A true)) (e := 4) (by kernel_rfl) (by kernel_rfl) (by kernel_rfl) (by kernel_rfl) (st_cell (k := B) (j := 0) (a' := true) boC_len (by kernel_rfl) (by kernel_rfl) ha17 (by kernel_rfl) rfl) ?_
            refine sd_run 6 ?_
            refine sd_see 78 (.int .i64 ((k + 1 : Nat) : Int)) (see_int (x := (IntKind.i64.wrap (((k : Nat) : Int) + 1))) (by kernel_rfl) (w64 (by omega) (by omega) (by omega))) ?_
            refine sd_run 2 ?_
            refine sd_inv R4_ (by kernel_rfl) (hR4_ _ (c.length - (k + 1)) _ (emOf [some 0, some 1, some 2, some 3, none, some 5, some 6, some 7, some 8, some 9]) (by omega) ⟨k + 1, rfl, (by omega), rfl⟩ ⟨sub_of (by kernel_rfl) (by kernel_rfl) ⟨bk_flat (tab inC ops) (by kernel_rfl) (tab_plain inC_pl _) rfl, bk_flat (tab inC az) (by kernel_rfl) (tab_plain inC_pl _) rfl, bk_flat (tab inC bs) (by kernel_rfl) (tab_plain inC_pl _) rfl, bk_flat (tab inC outs) (by kernel_rfl) (tab_plain inC_pl _) rfl, bk_flat (tab iiC c) (by kernel_rfl) (tab_plain iiC_pl _) rfl, bk_flat (tab inC o) (by kernel_rfl) (tab_plain inC_pl _) rfl, bk_ren (by kernel_rfl) (by kernel_rfl), bk_flat (tab ivC (ofL c o [] ((X : Nat) : Int) (-1))) (by kernel_rfl) (tab_plain ivC_pl _) rfl, bk_flat (tab boC ((((codeU c (flU (outU (List.replicate c.length false) o) ((X : Nat) : Int)) k).set A true)).set B true)) (by kernel_rfl) (tab_plain boC_pl _) (congrArg (tab boC) (by rw [codeU_use ha13 (by omega), hA, hB]; rfl)), True.intro⟩, te_of (by kernel_rfl) (by kernel_rfl)⟩ (by kernel_rfl))
          · skip
            refine sd_run 8 ?_
            refine sd_see 76 (.bool true) (see_bool (by kernel_rfl) ((decide_eq_true (by omega)) : ((decide (((k : Nat) : Int) < ((c.length : Nat) : Int)))) = true)) ?_
            refine sd_run 12 ?_
            refine sd_ix 82 (.pointer (some ⟨5, 0 + k * 5, none⟩)) k c.length (by kernel_rfl) (by kernel_rfl) (by kernel_rfl) (by omega) ?_
            refine sd_run 1 ?_
            refine sd_ld 84 (.int .i64 a13.1) 3 (.pointer (some ⟨5, 0 + k * 5, none⟩)) (by kernel_rfl) (by kernel_rfl) (by kernel_rfl) (ld_cell (l := c) (e := 50) (ro := false) (k := k) (j := 0) iiC_len (by kernel_rfl) (by kernel_rfl) (by kernel_rfl) ha13 rfl) ?_
            refine sd_run 1 ?_
            refine sd_see 85 (.bool false) (see_bool (by kernel_rfl) ((beq_eq_false_iff_ne.2 (by omega)) : (((a13.1 : Int) == 3)) = false)) ?_
            refine sd_run 4 ?_
            refine sd_ix 90 (.pointer (some ⟨5, 0 + k * 5, none⟩)) k c.length (by kernel_rfl) (by kernel_rfl) (by kernel_rfl) (by omega) ?_
            refine sd_run 1 ?_
            refine sd_ld 92 (.int .i64 a13.1) 3 (.pointer (some ⟨5, 0 + k * 5, none⟩)) (by kernel_rfl) (by kernel_rfl) (by kernel_rfl) (ld_cell (l := c) (e := 50) (ro := false) (k := k) (j := 0) iiC_len (by kernel_rfl) (by kernel_rfl) (by kernel_rfl) ha13 rfl) ?_
            refine sd_run 1 ?_
            refine sd_see 93 (.bool false) (see_bool (by kernel_rfl) ((beq_eq_false_iff_ne.2 (by omega)) : (((a13.1 : Int) == 4)) = false)) ?_
            refine sd_run 10 ?_
            refine sd_see 78 (.int .i64 ((k + 1 : Nat) : Int)) (see_int (x := (IntKind.i64.wrap (((k : Nat) : Int) + 1))) (by kernel_rfl) (w64 (by omega) (by omega) (by omega))) ?_
            refine sd_run 2 ?_
            refine sd_inv R4_ (by kernel_rfl) (hR4_ _ (c.length - (k + 1)) _ (emOf [some 0, some 1, some 2, some 3, none, some 5, some 6, some 7, some 8, some 9]) (by omega) ⟨k + 1, rfl, (by omega), rfl⟩ ⟨sub_of (by kernel_rfl) (by kernel_rfl) ⟨bk_flat (tab inC ops) (by kernel_rfl) (tab_plain inC_pl _) rfl, bk_flat (tab inC az) (by kernel_rfl) (tab_plain inC_pl _) rfl, bk_flat (tab inC bs) (by kernel_rfl) (tab_plain inC_pl _) rfl, bk_flat (tab inC outs) (by kernel_rfl) (tab_plain inC_pl _) rfl, bk_flat (tab iiC c) (by kernel_rfl) (tab_plain iiC_pl _) rfl, bk_flat (tab inC o) (by kernel_rfl) (tab_plain inC_pl _) rfl, bk_ren (by kernel_rfl) (by kernel_rfl), bk_flat (tab ivC (ofL c o [] ((X : Nat) : Int) (-1))) (by kernel_rfl) (tab_plain ivC_pl _) rfl, bk_flat (tab boC (codeU c (flU (outU (List.replicate c.length false) o) ((X : Nat) : Int)) k)) (by kernel_rfl) (tab_plain boC_pl _) (congrArg (tab boC) (codeU_no ha13 (by omega)).symm), True.intro⟩, te_of (by kernel_rfl) (by kernel_rfl)⟩ (by kernel_rfl))
        · skip
          obtain rfl : k = c.length := by omega
          refine sd_run 8 ?_
          refine sd_see 76 (.bool false) (see_bool (by kernel_rfl) ((decide_eq_false (by omega)) : ((decide (((c.length : Nat) : Int) < ((c.length : Nat) : Int)))) = false)) ?_
          refine sd_run 15 ?_
          refine sd_loop 152 (cl (cl (cr (cl (cr (cr (cr (cr (cr (cr (cr (cr (cr f6b))))))))))))) [.blk 4, .next (cr (cr (cr (cr (cr (cr (cr (cr (cr (cr f6b))))))))))] (by kernel_rfl) (by kernel_rfl) (by kernel_rfl) (fun m9 s9 => ∃ (i : Nat), m9 = c.length - i ∧ (i ≤ c.length) ∧ s9 = ⟨tmL [(4, .slice (some ⟨8, 0, none⟩) c.length (unk + 3)), (5, .slice (some ⟨9, 0, none⟩) c.length c.length), (8, .int .i64 ((i : Nat) : Int))], hq [some ⟨(tab inC ops), 3, true⟩, some ⟨(tab inC az), 3, true⟩, some ⟨(tab inC bs), 3, true⟩, some ⟨(tab inC outs), 3, true⟩, none, none, none, none, some ⟨(tab ivC (ofL c o [] ((X : Nat) : Int) (-1))), 40, false⟩, some ⟨(tab boC (codeU c (flU (outU (List.replicate c.length false) o) ((X : Nat) : Int)) c.length)), 4, false⟩]⟩) (c.length - 0) _ (emOf [some 0, some 1, some 2, some 3, none, none, none, none, some 8, some 9]) hX ⟨0, rfl, (by omega), rfl⟩ ⟨sub_of (by kernel_rfl) (by kernel_rfl) ⟨bk_flat (tab inC ops) (by kernel_rfl) (tab_plain inC_pl _) rfl, bk_flat (tab inC az) (by kernel_rfl) (tab_plain inC_pl _) rfl, bk_flat (tab inC bs) (by kernel_rfl) (tab_plain inC_pl _) rfl, bk_flat (tab inC outs) (by kernel_rfl) (tab_plain inC_pl _) rfl, bk_flat (tab ivC (ofL c o [] ((X : Nat) : Int) (-1))) (by kernel_rfl) (tab_plain ivC_pl _) rfl, bk_flat (tab boC (codeU c (flU (outU (List.replicate c.length false) o) ((X : Nat) : Int)) c.length)) (by kernel_rfl) (tab_plain boC_pl _) rfl, True.intro⟩, te_of (by kernel_rfl) (by kernel_rfl)⟩ (by kernel_rfl) ?_
          rintro m9 s9 ⟨i, rfl, i5_0, rfl⟩ R5_ hR5_
          by_cases hlt3 : i < c.length
          · skip
            obtain ⟨a18, ha18⟩ : ∃ x_, (ofL c o [] ((X : Nat) : Int) (-1))[i]? = some x_ := ⟨_, List.getElem?_eq_getElem (by simp; omega)⟩
            obtain ⟨a19, ha19⟩ : ∃ x_, (codeU c (flU (outU (List.replicate c.length false) o) ((X : Nat) : Int)) c.length)[i]? = some x_ := ⟨_, List.getElem?_eq_getElem (by simp; omega)⟩
            obtain ⟨e1, e2, e3⟩ := ends_at hR ha18 ha19
            refine sd_run 7 ?_
            refine sd_see 114 (.bool true) (see_bool (by kernel_rfl) ((decide_eq_true (by omega)) : ((decide (((i : Nat) : Int) < ((c.length : Nat) : Int)))) = true)) ?_
            refine sd_run 11 ?_
            refine sd_ix 119 (.pointer (some ⟨8, 0 + i * 3, none⟩)) i c.length (by kernel_rfl) (by kernel_rfl) (by kernel_rfl) (by omega) ?_
            refine sd_run 1 ?_
            refine sd_ld 121 (.int .i64 a18.2.2) 3 (.pointer (some ⟨8, 0 + i * 3 + 2, none⟩)) (by kernel_rfl) (by kernel_rfl) (by kernel_rfl) (ld_cell (l := ofL c o [] ((X : Nat) : Int) (-1)) (e := 40) (ro := false) (k := i) (j := 2) ivC_len (by kernel_rfl) (by kernel_rfl) (by kernel_rfl) ha18 rfl) ?_
            refine sd_run 2 ?_
            refine sd_ix 124 (.pointer (some ⟨8, 0 + i * 3, none⟩)) i c.length (by kernel_rfl) (by kernel_rfl) (by kernel_rfl) (by omega) ?_
            refine sd_run 1 ?_
            refine sd_ld 126 (.int .i64 a18.2.1) 3 (.pointer (some ⟨8, 0 + i * 3 + 1, none⟩)) (by kernel_rfl) (by kernel_rfl) (by kernel_rfl) (ld_cell (l := ofL c o [] ((X : Nat) : Int) (-1)) (e := 40) (ro := false) (k := i) (j := 1) ivC_len (by kernel_rfl) (by kernel_rfl) (by kernel_rfl) ha18 rfl) ?_
            refine sd_run 3 ?_
            refine sd_ix 130 (.pointer (some ⟨9, 0 + i * 1, none⟩)) i c.length (by kernel_rfl) (by kernel_rfl) (by kernel_rfl) (by omega) ?_
            refine sd_ld 131 (.bool a19) 4 (.pointer (some ⟨9, 0 + i * 1, none⟩)) (by kernel_rfl) (by kernel_rfl) (by kernel_rfl) (ld_cell (l := codeU c (flU (outU (List.replicate c.length false) o) ((X : Nat) : Int)) c.length) (e := 4) (ro := false) (k := i) (j := 0) boC_len (by kernel_rfl) (by kernel_rfl) (by kernel_rfl) ha19 rfl) ?_
            refine sd_run 1 ?_
            refine sd_see 132 (.bool false) (see_bool (by kernel_rfl) (e3 : (((decide ((a18.2.2 : Int) > a18.2.1)) != a19)) = false)) ?_
            refine sd_run 3 ?_
            refine sd_ix 136 (.pointer (some ⟨8, 0 + i * 3, none⟩)) i c.length (by kernel_rfl) (by kernel_rfl) (by kernel_rfl) (by omega) ?_
            refine sd_run 1 ?_
            refine sd_ld 138 (.int .i64 a18.2.1) 3 (.pointer (some ⟨8, 0 + i * 3 + 1, none⟩)) (by kernel_rfl) (by kernel_rfl) (by kernel_rfl) (ld_cell (l := ofL c o [] ((X : Nat) : Int) (-1)) (e := 40) (ro := false) (k := i) (j := 1) ivC_len (by kernel_rfl) (by kernel_rfl) (by kernel_rfl) ha18 rfl) ?_
            refine sd_run 2 ?_
            refine sd_see 140 (.bool false) (see_bool (by kernel_rfl) ((bne_eq_false_iff_eq.2 e2) : (((a18.2.1 : Int) != ((i : Nat) : Int))) = false)) ?_
            refine sd_run 4 ?_
            refine sd_ix 145 (.pointer (some ⟨8, 0 + i * 3, none⟩)) i c.length (by kernel_rfl) (by kernel_rfl) (by kernel_rfl) (by omega) ?_
            refine sd_run 1 ?_
            refine sd_ld 147 (.int .i64 a18.1) 3 (.pointer (some ⟨8, 0 + i * 3, none⟩)) (by kernel_rfl) (by kernel_rfl) (by kernel_rfl) (ld_cell (l := ofL c o [] ((X : Nat) : Int) (-1)) (e := 40) (ro := false) (k := i) (j := 0) ivC_len (by kernel_rfl) (by kernel_rfl) (by kernel_rfl) ha18 rfl) ?_
            refine sd_run 2 ?_
            refine sd_see 149 (.bool false) (see_bool (by kernel_rfl) ((bne_eq_false_iff_eq.2 e1) : (((a18.1 : Int) != ((i : Nat) : Int))) = false)) ?_
            refine sd_run 10 ?_
            refine sd_see 116 (.int .i64 ((i + 1 : Nat) : Int)) (see_int (x := (IntKind.i64.wrap (((i : Nat) : Int) + 1))) (by kernel_rfl) (w64 (by omega) (by omega) (by omega))) ?_
            refine sd_run 2 ?_
            refine sd_inv R5_ (by kernel_rfl) (hR5_ _ (c.length - (i + 1)) _ (emOf [some 0, some 1, some 2, some 3, none, none, none, none, some 8, some 9]) (by omega) ⟨i + 1, rfl, (by omega), rfl⟩ ⟨sub_of (by kernel_rfl) (by kernel_rfl) ⟨bk_flat (tab inC ops) (by kernel_rfl) (tab_plain inC_pl _) rfl, bk_flat (tab inC az) (by kernel_rfl) (tab_plain inC_pl _) rfl, bk_flat (tab inC bs) (by kernel_rfl) (tab_plain inC_pl _) rfl, bk_flat (tab inC outs) (by kernel_rfl) (tab_plain inC_pl _) rfl, bk_flat (tab ivC (ofL c o [] ((X : Nat) : Int) (-1))) (by kernel_rfl) (tab_plain ivC_pl _) rfl, bk_flat (tab boC (codeU c (flU (outU (List.replicate c.length false) o) ((X : Nat) : Int)) c.length)) (by kernel_rfl) (tab_plain boC_pl _) rfl, True.intro⟩, te_of (by kernel_rfl) (by kernel_rfl)⟩ (by kernel_rfl))
          · skip
            obtain rfl : i = c.length := by omega
            refine sd_run 7 ?_
            refine sd_see 114 (.bool false) (see_bool (by kernel_rfl) ((decide_eq_false (by omega)) : ((decide (((c.length : Nat) : Int) < ((c.length : Nat) : Int)))) = false)) ?_
            refine sd_run 15 ?_
            refine sd_end (.bool true) hX (by kernel_rfl) (by kernel_rfl) (by kernel_rfl) (.bool true) (hq [some ⟨(tab inC ops), 3, true⟩, some ⟨(tab inC az), 3, true⟩, some ⟨(tab inC bs), 3, true⟩, some ⟨(tab inC outs), 3, true⟩]) (emOf [some 0, some 1, some 2, some 3]) (sub_of (by kernel_rfl) (by kernel_rfl) ⟨bk_flat (tab inC ops) (by kernel_rfl) (tab_plain inC_pl _) rfl, bk_flat (tab inC az) (by kernel_rfl) (tab_plain inC_pl _) rfl, bk_flat (tab inC bs) (by kernel_rfl) (tab_plain inC_pl _) rfl, bk_flat (tab inC outs) (by kernel_rfl) (tab_plain inC_pl _) rfl, True.intro⟩) (rn2_sound _ _ (by kernel_rfl)) ⟨rfl, rfl⟩
end Ls
end Go.Proofs.Ytahikechkggbfaa
