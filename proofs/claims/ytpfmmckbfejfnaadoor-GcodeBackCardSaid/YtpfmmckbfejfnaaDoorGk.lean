/- Chapter 2: texts of unlike instructions are unlike; GcodeKinds answers true. -/
import Derived.Test.YtpfmmckbfejfnaaDoorGe
namespace Go.Proofs.YtpfmmckbfejfnaaDoor
open Go Go.Ev Go.RowKit
set_option linter.unusedVariables false
set_option linter.unusedSimpArgs false
set_option maxRecDepth 100000
namespace Gc
/-! Plain laws -/
def vl (l : List UInt8) : Nat := l.foldl (fun a c => a * 10 + (c.toNat - 48)) 0
theorem vl_dec (n : Nat) : vl (Lib.decDigits n) = n := by
  induction n using Nat.strongRecOn with
  | _ n ih =>
    have hd : ∀ d : Nat, d < 10 → (UInt8.ofNat (48 + d)).toNat - 48 = d := fun d hd => by
      rw [UInt8.toNat_ofNat']; omega
    by_cases h : n < 10
    · rw [Lib.decDigits, dif_pos h]
      simp only [vl, List.foldl_cons, List.foldl_nil]
      rw [hd n h]; omega
    · rw [Lib.decDigits, dif_neg h]
      have := ih (n / 10) (by omega)
      unfold vl at this ⊢
      rw [List.foldl_append]
      simp only [List.foldl_cons, List.foldl_nil]
      rw [this, hd (n % 10) (by omega)]; omega
theorem dec_inj {a b : Int} (ha : u32B a = true) (hb : u32B b = true) (h : dec a = dec b) : a = b := by
  simp only [u32B, Bool.and_eq_true, decide_eq_true_eq] at ha hb
  obtain ⟨i, rfl⟩ : ∃ k : Nat, a = k := ⟨a.toNat, by omega⟩
  obtain ⟨j, rfl⟩ : ∃ k : Nat, b = k := ⟨b.toNat, by omega⟩
  rw [dec_eq i (by omega), dec_eq j (by omega)] at h
  have h2 : Lib.decDigits i = Lib.decDigits j := by
    have := congrArg (fun b : ByteArray => b.data.toList) h
    exact this
  have := vl_dec i
  rw [h2, vl_dec] at this
  omega
theorem opT_ok : opT.all (fun o => decide (0 ≤ o) && decide (o < 70)) = true := by kernel_rfl
theorem opOf_in (n : Int) : opOf n ∈ opT := by
  unfold opOf
  rw [List.getD_eq_getElem?_getD]
  have : ((n % 1073741825) % 42).toNat < opT.length := by
    have : opT.length = 42 := by kernel_rfl
    rw [this]; omega
  rw [List.getElem?_eq_getElem this]
  exact List.getElem_mem this
def good (o : Int) : Bool := (superV o == false || endsV o) && (plainV o == false || superV o == false) && (sizeV o == 1 || sizeV o == 2 || sizeV o == 5) && !(nameV o).data.toList.contains 32 && !(nameV o).data.toList.contains 63 && !(nameV o).data.toList.isEmpty
theorem good_all : opT.all good = true := by kernel_rfl
theorem good_of (n : Int) : good (opOf n) = true := List.all_eq_true.1 good_all _ (opOf_in n)
theorem names_apart : opT.all (fun a => opT.all fun b => a == b || !((nameV a).data.toList == (nameV b).data.toList)) = true := by kernel_rfl
theorem name_inj {a b : Int} (ha : a ∈ opT) (hb : b ∈ opT) (h : (nameV a).data.toList = (nameV b).data.toList) : a = b := by
  have := List.all_eq_true.1 (List.all_eq_true.1 names_apart a ha) b hb
  simp only [Bool.or_eq_true, beq_iff_eq, Bool.not_eq_true'] at this
  rcases this with h1 | h1
  · exact h1
  · rw [h] at h1; simp at h1
theorem cut_eq {α : Type} {c : α} : ∀ {a b x y : List α}, c ∉ a → c ∉ b → a ++ c :: x = b ++ c :: y → a = b ∧ x = y := by
  intro a
  induction a with
  | nil =>
    intro b x y _ hb h
    cases b with
    | nil => simpa using h
    | cons d b => simp at h; exact absurd h.1 (fun e => hb (by simp [e]))
  | cons d a ih =>
    intro b x y ha hb h
    cases b with
    | nil => simp at h; exact absurd h.1 (fun e => ha (by simp [e]))
    | cons e b =>
      simp at h
      obtain ⟨rfl, h⟩ := h
      obtain ⟨rfl, rfl⟩ := ih (fun m => ha (by simp [m])) (fun m => hb (by simp [m])) h
      exact ⟨rfl, rfl⟩
theorem num_right (o v : Int) (hv : u32B v = true) (h : sizeV o = 1 ∨ sizeV o = 2 ∨ sizeV o = 5) : rightV o (numOf o v) = true ∧ u32B (numOf o v) = true := by
  simp only [u32B, Bool.and_eq_true, decide_eq_true_eq] at hv
  unfold rightV numOf u32B
  rcases h with h | h | h
  · simp [h]
  · simp only [h]
    cases (decide (o ≥ 32) && decide (o ≤ 38)) <;> cases (o == 66 || o == 67) <;> simp <;> omega
  · simp only [h]
    cases h1 : v % 4 == 0
    · cases h2 : v % 4 == 1
      · cases h3 : v % 4 == 2
        · simp; omega
        · simp; omega
      · simp; omega
    · simp; omega
theorem text_bytes (o N : Int) (h : rightV o N = true) : (textV o N).data.toList = (nameV o).data.toList ++ (if sizeV o > 1 then 32 :: (dec N).data.toList else []) := by
  unfold textV
  rw [h]
  simp only [cond_true]
  by_cases h2 : sizeV o > 1
  · simp [h2]
  · simp [h2]
theorem text_inj {o p N M : Int} (ho : o ∈ opT) (hp : p ∈ opT) (hN : u32B N = true) (hM : u32B M = true) (h1 : rightV o N = true) (h2 : rightV p M = true) (h : textV o N = textV p M) : o = p ∧ N = M := by
  have g1 := List.all_eq_true.1 good_all _ ho
  have g2 := List.all_eq_true.1 good_all _ hp
  simp only [good, Bool.and_eq_true, Bool.or_eq_true, Bool.not_eq_true', beq_iff_eq] at g1 g2
  obtain ⟨⟨⟨⟨⟨_, _⟩, s1⟩, n1⟩, _⟩, _⟩ := g1
  obtain ⟨⟨⟨⟨⟨_, _⟩, s2⟩, n2⟩, _⟩, _⟩ := g2
  have hb := congrArg (fun b : ByteArray => b.data.toList) h
  simp only [text_bytes o N h1, text_bytes p M h2] at hb
  have m1 : (32 : UInt8) ∉ (nameV o).data.toList := by simpa using n1
  have m2 : (32 : UInt8) ∉ (nameV p).data.toList := by simpa using n2
  by_cases a : sizeV o > 1
  · by_cases b : sizeV p > 1
    · rw [if_pos a, if_pos b] at hb
      obtain ⟨e1, e2⟩ := cut_eq m1 m2 hb
      exact ⟨name_inj ho hp e1, dec_inj hN hM (by cases hx : dec N; cases hy : dec M; rw [hx, hy] at e2; congr 1; exact Array.ext' e2)⟩
    · rw [if_pos a, if_neg b, List.append_nil] at hb
      exact absurd (by rw [← hb]; simp) m2
  · by_cases b : sizeV p > 1
    · rw [if_neg a, if_pos b, List.append_nil] at hb
      exact absurd (by rw [hb]; simp) m1
    · rw [if_neg a, if_neg b, List.append_nil, List.append_nil] at hb
      have e := name_inj ho hp hb
      have z : ∀ o N : Int, (sizeV o = 1 ∨ sizeV o = 2) ∨ sizeV o = 5 → ¬ sizeV o > 1 → rightV o N = true → N = 0 := fun o N hs hn hr => by
        have : sizeV o = 1 := by omega
        unfold rightV at hr
        rw [this] at hr
        simpa using hr
      exact ⟨e, by rw [z o N s1 a h1, z p M s2 b h2]⟩
theorem text_eq {o p N M : Int} (ho : o ∈ opT) (hp : p ∈ opT) (hN : u32B N = true) (hM : u32B M = true) (h1 : rightV o N = true) (h2 : rightV p M = true) : (decide (textV o N = textV p M) == ((o == p) && ((N == M) && true))) = true := by
  by_cases h : o = p ∧ N = M
  · obtain ⟨rfl, rfl⟩ := h
    simp
  · have : ¬ textV o N = textV p M := fun e => h (text_inj ho hp hN hM h1 h2 e)
    simp only [this, decide_false, Bool.and_true]
    cases e1 : (o == p) <;> cases e2 : (N == M) <;> simp_all
theorem text_not {o N : Int} (ho : o ∈ opT) (h1 : rightV o N = true) : decide (textV o N = ⟨⟨[63]⟩⟩) = false := by
  have g1 := List.all_eq_true.1 good_all _ ho
  simp only [good, Bool.and_eq_true, Bool.or_eq_true, Bool.not_eq_true', beq_iff_eq] at g1
  obtain ⟨⟨⟨⟨⟨_, _⟩, s1⟩, n1⟩, q1⟩, e1⟩ := g1
  rw [decide_eq_false_iff_not]
  intro h
  have hb := congrArg (fun b : ByteArray => b.data.toList) h
  simp only [text_bytes o N h1] at hb
  have m2 : (63 : UInt8) ∉ (nameV o).data.toList := by simpa using q1
  cases hn : (nameV o).data.toList with
  | nil => rw [hn] at e1; cases e1
  | cons c l =>
    rw [hn] at hb m2
    simp at hb
    exact m2 (by simp [hb.1])
/-! The walk -/
noncomputable def f5b : Code := Tryd.f5.body.getD .skip
noncomputable def f5ba : Code := cl f5b
noncomputable def f5bao : Array Oper := opsOf f5ba
noncomputable def f5bc : Code := cr f5b
noncomputable def f5bca : Code := cl f5bc
noncomputable def f5bcao : Array Oper := opsOf f5bca
noncomputable def f5bcc : Code := cr f5bc
noncomputable def f5bcca : Code := cl f5bcc
noncomputable def f5bccaa : Code := cl f5bcca
noncomputable def f5bccaao : Array Oper := opsOf f5bccaa
noncomputable def f5bccac : Code := cr f5bcca
noncomputable def f5bccaca : Code := cl f5bccac
noncomputable def f5bccacaa : Code := cl f5bccaca
noncomputable def f5bccacaaa : Code := cl f5bccacaa
noncomputable def f5bccacaaao : Array Oper := opsOf f5bccacaaa
noncomputable def f5bccacaac : Code := cr f5bccacaa
noncomputable def f5bccacaaca : Code := cl f5bccacaac
noncomputable def f5bccacaacc : Code := cr f5bccacaac
noncomputable def f5bccacaacca : Code := cl f5bccacaacc
noncomputable def f5bccacaaccaa : Code := cl f5bccacaacca
noncomputable def f5bccacaaccaaa : Code := cl f5bccacaaccaa
noncomputable def f5bccacaaccaaao : Array Oper := opsOf f5bccacaaccaaa
noncomputable def f5bccacaaccaac : Code := cr f5bccacaaccaa
noncomputable def f5bccacaaccaaca : Code := cl f5bccacaaccaac
noncomputable def f5bccacaaccaacao : Array Oper := opsOf f5bccacaaccaaca
noncomputable def f5bccacaaccaacc : Code := cr f5bccacaaccaac
noncomputable def f5bccacaaccaacca : Code := cl f5bccacaaccaacc
noncomputable def f5bccacaaccaaccao : Array Oper := opsOf f5bccacaaccaacca
noncomputable def f5bccacaaccaaccc : Code := cr f5bccacaaccaacc
noncomputable def f5bccacaaccaaccca : Code := cl f5bccacaaccaaccc
noncomputable def f5bccacaaccaacccaa : Code := cl f5bccacaaccaaccca
noncomputable def f5bccacaaccaacccaao : Array Oper := opsOf f5bccacaaccaacccaa
noncomputable def f5bccacaaccc : Code := cr f5bccacaacc
noncomputable def f5bccacaaccco : Array Oper := opsOf f5bccacaaccc
noncomputable def f5bccc : Code := cr f5bcc
noncomputable def f5bccca : Code := cl f5bccc
noncomputable def f5bcccao : Array Oper := opsOf f5bccca
theorem f5ba_eq : f5ba = .region 0 f5bao false := by kernel_rfl
theorem f5bca_eq : f5bca = .region 1 f5bcao false := by kernel_rfl
theorem f5bccaa_eq : f5bccaa = .region 2 f5bccaao false := by kernel_rfl
theorem f5bccacaaa_eq : f5bccacaaa = .region 3 f5bccacaaao false := by kernel_rfl
theorem f5bccacaaca_eq : f5bccacaaca = .cond (cop f5bccacaaca) .skip (.exit 0) := by kernel_rfl
theorem f5bccacaaccaaa_eq : f5bccacaaccaaa = .region 4 f5bccacaaccaaao false := by kernel_rfl
theorem f5bccacaaccaaca_eq : f5bccacaaccaaca = .region 5 f5bccacaaccaacao false := by kernel_rfl
theorem f5bccacaaccaacca_eq : f5bccacaaccaacca = .region 6 f5bccacaaccaaccao false := by kernel_rfl
theorem f5bccacaaccaacccaa_eq : f5bccacaaccaacccaa = .region 7 f5bccacaaccaacccaao false := by kernel_rfl
theorem f5bccacaaccaaccca_eq : f5bccacaaccaaccca = .seq f5bccacaaccaacccaa .ret := by kernel_rfl
theorem f5bccacaaccaaccc_eq : f5bccacaaccaaccc = .cond (cop f5bccacaaccaaccc) f5bccacaaccaaccca .skip := by kernel_rfl
theorem f5bccacaaccaacc_eq : f5bccacaaccaacc = .seq f5bccacaaccaacca f5bccacaaccaaccc := by kernel_rfl
theorem f5bccacaaccaac_eq : f5bccacaaccaac = .seq f5bccacaaccaaca f5bccacaaccaacc := by kernel_rfl
theorem f5bccacaaccaa_eq : f5bccacaaccaa = .seq f5bccacaaccaaa f5bccacaaccaac := by kernel_rfl
theorem f5bccacaacca_eq : f5bccacaacca = .block 1 f5bccacaaccaa := by kernel_rfl
theorem f5bccacaaccc_eq : f5bccacaaccc = .region 8 f5bccacaaccco false := by kernel_rfl
theorem f5bccacaacc_eq : f5bccacaacc = .seq f5bccacaacca f5bccacaaccc := by kernel_rfl
theorem f5bccacaac_eq : f5bccacaac = .seq f5bccacaaca f5bccacaacc := by kernel_rfl
theorem f5bccacaa_eq : f5bccacaa = .seq f5bccacaaa f5bccacaac := by kernel_rfl
theorem f5bccaca_eq : f5bccaca = .loop f5bccacaa := by kernel_rfl
theorem f5bccac_eq : f5bccac = .block 0 f5bccaca := by kernel_rfl
theorem f5bcca_eq : f5bcca = .seq f5bccaa f5bccac := by kernel_rfl
theorem f5bccca_eq : f5bccca = .region 9 f5bcccao true := by kernel_rfl
theorem f5bccc_eq : f5bccc = .seq f5bccca .ret := by kernel_rfl
theorem f5bcc_eq : f5bcc = .seq f5bcca f5bccc := by kernel_rfl
theorem f5bc_eq : f5bc = .seq f5bca f5bcc := by kernel_rfl
theorem f5b_eq : f5b = .seq f5ba f5bc := by kernel_rfl
theorem f5_body : Tryd.f5.body = some f5b := by kernel_rfl
theorem f5_fn : T20.fn 5 = some Tryd.f5 := by kernel_rfl
theorem kinds_run (a b v w : Int) (ha : i64B a = true) (hb : i64B b = true) (hv : u32B v = true) (hw : u32B w = true) : ACall Tryd.prog T20 5 #[.int .i64 a, .int .i64 b, .int .u32 v, .int .u32 w] ⟨.lf, 0⟩ fun r _ => r = .bool true := by
  have ga := good_of a
  simp only [good, Bool.and_eq_true, Bool.or_eq_true, Bool.not_eq_true', beq_iff_eq] at ga
  obtain ⟨⟨⟨⟨⟨sea0, psa0⟩, sza0⟩, _⟩, _⟩, _⟩ := ga
  have sza : sizeV (opOf a) = 1 ∨ sizeV (opOf a) = 2 ∨ sizeV (opOf a) = 5 := by omega
  obtain ⟨ra, ua⟩ := num_right (opOf a) v hv sza
  have ta := text_not (opOf_in a) ra
  have sea : superV (opOf a) = true → endsV (opOf a) = true := fun h => by rcases sea0 with e | e <;> simp_all
  have psa : plainV (opOf a) = true → superV (opOf a) = false := fun h => by rcases psa0 with e | e <;> simp_all
  have spa : superV (opOf a) = true → plainV (opOf a) = false := fun h => by rcases psa0 with e | e <;> simp_all
  have za : ((sizeV (opOf a) : Int) != 1) = true → ((sizeV (opOf a) : Int) != 2) = true → ((sizeV (opOf a) : Int) != 5) = false := fun h1 h2 => by simp at *; omega
  have gb := good_of b
  simp only [good, Bool.and_eq_true, Bool.or_eq_true, Bool.not_eq_true', beq_iff_eq] at gb
  obtain ⟨⟨⟨⟨⟨seb0, psb0⟩, szb0⟩, _⟩, _⟩, _⟩ := gb
  have szb : sizeV (opOf b) = 1 ∨ sizeV (opOf b) = 2 ∨ sizeV (opOf b) = 5 := by omega
  obtain ⟨rb, ub⟩ := num_right (opOf b) w hw szb
  have tb := text_not (opOf_in b) rb
  have seb : superV (opOf b) = true → endsV (opOf b) = true := fun h => by rcases seb0 with e | e <;> simp_all
  have psb : plainV (opOf b) = true → superV (opOf b) = false := fun h => by rcases psb0 with e | e <;> simp_all
  have spb : superV (opOf b) = true → plainV (opOf b) = false := fun h => by rcases psb0 with e | e <;> simp_all
  have zb : ((sizeV (opOf b) : Int) != 1) = true → ((sizeV (opOf b) : Int) != 2) = true → ((sizeV (opOf b) : Int) != 5) = false := fun h1 h2 => by simp at *; omega
  refine acall_of' 85 (initTm 0 #[.int .i64 a, .int .i64 b, .int .u32 v, .int .u32 w]) rfl f5_fn f5_body rfl rfl ?_
  rw [f5b_eq]
  refine aw_then ?_
  rw [f5ba_eq]
  refine aw_reg ?_
  refine aops_go 1 60 (by kernel_rfl) ?_
  refine aops_end (by kernel_rfl) (then_normal ?_)
  rw [f5bc_eq]
  refine aw_then ?_
  rw [f5bca_eq]
  refine aw_reg ?_
  refine aops_go 2 60 (by kernel_rfl) ?_
  refine aops_ask 16 (.agg #[.int .i64 (opOf a), .int .u32 (numOf (opOf a) v)]) 13 #[.int .i64 a, .int .u32 v] (by kernel_rfl) (by kernel_rfl) (by kernel_rfl) (by kernel_rfl) (orc13 a v ha hv) ?_
  refine aops_go 2 60 (by kernel_rfl) ?_
  refine aops_ask 19 (.agg #[.int .i64 (opOf b), .int .u32 (numOf (opOf b) w)]) 13 #[.int .i64 b, .int .u32 w] (by kernel_rfl) (by kernel_rfl) (by kernel_rfl) (by kernel_rfl) (orc13 b w hb hw) ?_
  refine aops_go 4 60 (by kernel_rfl) ?_
  refine aops_end (by kernel_rfl) (then_normal ?_)
  rw [f5bcc_eq]
  refine aw_then ?_
  rw [f5bcca_eq]
  refine aw_then ?_
  rw [f5bccaa_eq]
  refine aw_reg ?_
  refine aops_go 5 60 (by kernel_rfl) ?_
  refine aops_end (by kernel_rfl) (then_normal ?_)
  rw [f5bccac_eq]
  refine aw_block ?_
  rw [f5bccaca_eq]
  refine aw_loop_k fun K1_ hK1_ => ?_
  rw [f5bccacaa_eq]
  refine aw_then ?_
  rw [f5bccacaaa_eq]
  refine aw_reg ?_
  refine aops_go 1 60 (by kernel_rfl) ?_
  refine aops_end (by kernel_rfl) (then_normal ?_)
  rw [f5bccacaac_eq]
  refine aw_then ?_
  rw [f5bccacaaca_eq]
  refine aw_cond (t := true) (by kernel_rfl) ?_
  refine aw_skip (then_normal ?_)
  rw [f5bccacaacc_eq]
  refine aw_then ?_
  rw [f5bccacaacca_eq]
  refine aw_block ?_
  rw [f5bccacaaccaa_eq]
  refine aw_then ?_
  rw [f5bccacaaccaaa_eq]
  refine aw_reg ?_
  refine aops_go 4 60 (by kernel_rfl) ?_
  refine aops_end (by kernel_rfl) (then_normal ?_)
  rw [f5bccacaaccaac_eq]
  refine aw_then ?_
  rw [f5bccacaaccaaca_eq]
  refine aw_reg ?_
  refine aops_go 2 60 (by kernel_rfl) ?_
  refine aops_ask 30 (.int .i64 (sizeV (opOf a))) 15 #[.int .i64 (opOf a)] (by kernel_rfl) (by kernel_rfl) (by kernel_rfl) (by kernel_rfl) rfl ?_
  refine aops_go 1 60 (by kernel_rfl) ?_
  refine aops_end (by kernel_rfl) (then_normal ?_)
  rw [f5bccacaaccaacc_eq]
  refine aw_then ?_
  rw [f5bccacaaccaacca_eq]
  refine aw_mid (fun s2 => Kn s2.tm [(9, .pointer (some ⟨0, 0, none⟩)), (10, .pointer (some ⟨1, 0, none⟩)), (22, .slice (some ⟨2, 0, none⟩) 2 2), (23, .int .i64 2), (24, .int .i64 0), (71, .bool false)] ∧ s2.H = (⟨heapOf [(3, ⟨[Value.int .i64 (opOf a), .int .u32 (numOf (opOf a) v)], 26, false⟩), (2, ⟨[Value.int .i64 (opOf a), .int .u32 (numOf (opOf a) v), .int .i64 (opOf b), .int .u32 (numOf (opOf b) w)], 26, false⟩), (1, ⟨[Value.int .i64 (opOf b), .int .u32 (numOf (opOf b) w)], 26, false⟩), (0, ⟨[Value.int .i64 (opOf a), .int .u32 (numOf (opOf a) v)], 26, false⟩)], 4⟩ : Heap)) ?_ ?_
  · skip
    refine aw_reg ?_
    refine aops_go 2 60 (by kernel_rfl) ?_
    refine aops_ask 33 (.bool (superV (opOf a))) 16 #[.int .i64 (opOf a)] (by kernel_rfl) (by kernel_rfl) (by kernel_rfl) (by kernel_rfl) rfl ?_
    refine aops_go 1 60 (by kernel_rfl) ?_
    rcases Bool.eq_false_or_eq_true ((superV (opOf a))) with hc1 | hc1
    · skip
      refine aops_see 34 (.bool true) (see_bool (by kernel_rfl) hc1) ?_
      refine aops_go 2 60 (by kernel_rfl) ?_
      refine aops_ask 37 (.bool (endsV (opOf a))) 17 #[.int .i64 (opOf a)] (by kernel_rfl) (by kernel_rfl) (by kernel_rfl) (by kernel_rfl) rfl ?_
      refine aops_go 3 60 (by kernel_rfl) ?_
      refine aops_see 40 (.bool false) (see_bool (by kernel_rfl) ((by rw [(sea hc1)]; rfl) : (!(endsV (opOf a))) = false)) ?_
      refine aops_go 2 60 (by kernel_rfl) ?_
      refine aops_ask 43 (.bool (plainV (opOf a))) 18 #[.int .i64 (opOf a)] (by kernel_rfl) (by kernel_rfl) (by kernel_rfl) (by kernel_rfl) rfl ?_
      refine aops_go 1 60 (by kernel_rfl) ?_
      refine aops_see 44 (.bool false) (see_bool (by kernel_rfl) ((spa hc1) : ((plainV (opOf a))) = false)) ?_
      refine aops_go 9 60 (by kernel_rfl) ?_
      rcases Bool.eq_false_or_eq_true ((((sizeV (opOf a)) : Int) != 1)) with hc2 | hc2
      · skip
        refine aops_see 53 (.bool true) (see_bool (by kernel_rfl) hc2) ?_
        refine aops_go 4 60 (by kernel_rfl) ?_
        rcases Bool.eq_false_or_eq_true ((((sizeV (opOf a)) : Int) != 2)) with hc3 | hc3
        · skip
          refine aops_see 57 (.bool true) (see_bool (by kernel_rfl) hc3) ?_
          refine aops_go 5 60 (by kernel_rfl) ?_
          refine aops_see 62 (.bool false) (see_bool (by kernel_rfl) ((za hc2 hc3) : ((((sizeV (opOf a)) : Int) != 5)) = false)) ?_
          refine aops_go 1 60 (by kernel_rfl) ?_
          refine aops_ask 64 (.bool (rightV (opOf a) (numOf (opOf a) v))) 19 #[.agg #[.int .i64 (opOf a), .int .u32 (numOf (opOf a) v)]] (by kernel_rfl) (by kernel_rfl) (by kernel_rfl) (by kernel_rfl) rfl ?_
          refine aops_go 3 60 (by kernel_rfl) ?_
          refine aops_see 67 (.bool false) (see_bool (by kernel_rfl) ((by rw [ra]; rfl) : (!(rightV (opOf a) (numOf (opOf a) v))) = false)) ?_
          refine aops_go 1 60 (by kernel_rfl) ?_
          refine aops_ask 69 (.string (textV (opOf a) (numOf (opOf a) v))) 20 #[.agg #[.int .i64 (opOf a), .int .u32 (numOf (opOf a) v)]] (by kernel_rfl) (by kernel_rfl) (by kernel_rfl) (by kernel_rfl) (orc20 _ _ ua) ?_
          refine aops_val 70 (.bool (decide ((textV (opOf a) (numOf (opOf a) v)) = ⟨⟨[63]⟩⟩))) (⟨heapOf [(3, ⟨[Value.int .i64 (opOf a), .int .u32 (numOf (opOf a) v)], 26, false⟩), (2, ⟨[Value.int .i64 (opOf a), .int .u32 (numOf (opOf a) v), .int .i64 (opOf b), .int .u32 (numOf (opOf b) w)], 26, false⟩), (1, ⟨[Value.int .i64 (opOf b), .int .u32 (numOf (opOf b) w)], 26, false⟩), (0, ⟨[Value.int .i64 (opOf a), .int .u32 (numOf (opOf a) v)], 26, false⟩)], 4⟩ : Heap) (by kernel_rfl) (by kernel_rfl) (by kernel_rfl) (ha_fb (op := .eql) (t := 9) (a := .tmp 69) (b := .const (.string ⟨⟨[63]⟩⟩)) (u := .string (textV (opOf a) (numOf (opOf a) v))) (v := .string ⟨⟨[63]⟩⟩) (by kernel_rfl) (by kernel_rfl) (by kernel_rfl) rfl rfl rfl (seq_run rfl) rfl) ?_
          refine aops_see 70 (.bool false) (see_bool (x := (decide ((textV (opOf a) (numOf (opOf a) v)) = ⟨⟨[63]⟩⟩))) (by kernel_rfl) ta) ?_
          refine aops_go 1 60 (by kernel_rfl) ?_
          refine aops_end (by kernel_rfl) ⟨rfl, ⟨by kernel_rfl, by kernel_rfl, by kernel_rfl, by kernel_rfl, by kernel_rfl, by kernel_rfl, True.intro⟩, by kernel_rfl⟩
        · skip
          refine aops_see 57 (.bool false) (see_bool (by kernel_rfl) hc3) ?_
          refine aops_go 6 60 (by kernel_rfl) ?_
          refine aops_ask 64 (.bool (rightV (opOf a) (numOf (opOf a) v))) 19 #[.agg #[.int .i64 (opOf a), .int .u32 (numOf (opOf a) v)]] (by kernel_rfl) (by kernel_rfl) (by kernel_rfl) (by kernel_rfl) rfl ?_
          refine aops_go 3 60 (by kernel_rfl) ?_
          refine aops_see 67 (.bool false) (see_bool (by kernel_rfl) ((by rw [ra]; rfl) : (!(rightV (opOf a) (numOf (opOf a) v))) = false)) ?_
          refine aops_go 1 60 (by kernel_rfl) ?_
          refine aops_ask 69 (.string (textV (opOf a) (numOf (opOf a) v))) 20 #[.agg #[.int .i64 (opOf a), .int .u32 (numOf (opOf a) v)]] (by kernel_rfl) (by kernel_rfl) (by kernel_rfl) (by kernel_rfl) (orc20 _ _ ua) ?_
          refine aops_val 70 (.bool (decide ((textV (opOf a) (numOf (opOf a) v)) = ⟨⟨[63]⟩⟩))) (⟨heapOf [(3, ⟨[Value.int .i64 (opOf a), .int .u32 (numOf (opOf a) v)], 26, false⟩), (2, ⟨[Value.int .i64 (opOf a), .int .u32 (numOf (opOf a) v), .int .i64 (opOf b), .int .u32 (numOf (opOf b) w)], 26, false⟩), (1, ⟨[Value.int .i64 (opOf b), .int .u32 (numOf (opOf b) w)], 26, false⟩), (0, ⟨[Value.int .i64 (opOf a), .int .u32 (numOf (opOf a) v)], 26, false⟩)], 4⟩ : Heap) (by kernel_rfl) (by kernel_rfl) (by kernel_rfl) (ha_fb (op := .eql) (t := 9) (a := .tmp 69) (b := .const (.string ⟨⟨[63]⟩⟩)) (u := .string (textV (opOf a) (numOf (opOf a) v))) (v := .string ⟨⟨[63]⟩⟩) (by kernel_rfl) (by kernel_rfl) (by kernel_rfl) rfl rfl rfl (seq_run rfl) rfl) ?_
          refine aops_see 70 (.bool false) (see_bool (x := (decide ((textV (opOf a) (numOf (opOf a) v)) = ⟨⟨[63]⟩⟩))) (by kernel_rfl) ta) ?_
          refine aops_go 1 60 (by kernel_rfl) ?_
          refine aops_end (by kernel_rfl) ⟨rfl, ⟨by kernel_rfl, by kernel_rfl, by kernel_rfl, by kernel_rfl, by kernel_rfl, by kernel_rfl, True.intro⟩, by kernel_rfl⟩
      · skip
        refine aops_see 53 (.bool false) (see_bool (by kernel_rfl) hc2) ?_
        refine aops_go 10 60 (by kernel_rfl) ?_
        refine aops_ask 64 (.bool (rightV (opOf a) (numOf (opOf a) v))) 19 #[.agg #[.int .i64 (opOf a), .int .u32 (numOf (opOf a) v)]] (by kernel_rfl) (by kernel_rfl) (by kernel_rfl) (by kernel_rfl) rfl ?_
        refine aops_go 3 60 (by kernel_rfl) ?_
        refine aops_see 67 (.bool false) (see_bool (by kernel_rfl) ((by rw [ra]; rfl) : (!(rightV (opOf a) (numOf (opOf a) v))) = false)) ?_
        refine aops_go 1 60 (by kernel_rfl) ?_
        refine aops_ask 69 (.string (textV (opOf a) (numOf (opOf a) v))) 20 #[.agg #[.int .i64 (opOf a), .int .u32 (numOf (opOf a) v)]] (by kernel_rfl) (by kernel_rfl) (by kernel_rfl) (by kernel_rfl) (orc20 _ _ ua) ?_
        refine aops_val 70 (.bool (decide ((textV (opOf a) (numOf (opOf a) v)) = ⟨⟨[63]⟩⟩))) (⟨heapOf [(3, ⟨[Value.int .i64 (opOf a), .int .u32 (numOf (opOf a) v)], 26, false⟩), (2, ⟨[Value.int .i64 (opOf a), .int .u32 (numOf (opOf a) v), .int .i64 (opOf b), .int .u32 (numOf (opOf b) w)], 26, false⟩), (1, ⟨[Value.int .i64 (opOf b), .int .u32 (numOf (opOf b) w)], 26, false⟩), (0, ⟨[Value.int .i64 (opOf a), .int .u32 (numOf (opOf a) v)], 26, false⟩)], 4⟩ : Heap) (by kernel_rfl) (by kernel_rfl) (by kernel_rfl) (ha_fb (op := .eql) (t := 9) (a := .tmp 69) (b := .const (.string ⟨⟨[63]⟩⟩)) (u := .string (textV (opOf a) (numOf (opOf a) v))) (v := .string ⟨⟨[63]⟩⟩) (by kernel_rfl) (by kernel_rfl) (by kernel_rfl) rfl rfl rfl (seq_run rfl) rfl) ?_
        refine aops_see 70 (.bool false) (see_bool (x := (decide ((textV (opOf a) (numOf (opOf a) v)) = ⟨⟨[63]⟩⟩))) (by kernel_rfl) ta) ?_
        refine aops_go 1 60 (by kernel_rfl) ?_
        refine aops_end (by kernel_rfl) ⟨rfl, ⟨by kernel_rfl, by kernel_rfl, by kernel_rfl, by kernel_rfl, by kernel_rfl, by kernel_rfl, True.intro⟩, by kernel_rfl⟩
    · skip
      refine aops_see 34 (.bool false) (see_bool (by kernel_rfl) hc1) ?_
      refine aops_go 8 60 (by kernel_rfl) ?_
      refine aops_ask 43 (.bool (plainV (opOf a))) 18 #[.int .i64 (opOf a)] (by kernel_rfl) (by kernel_rfl) (by kernel_rfl) (by kernel_rfl) rfl ?_
      refine aops_go 1 60 (by kernel_rfl) ?_
      rcases Bool.eq_false_or_eq_true ((plainV (opOf a))) with hc4 | hc4
      · skip
        refine aops_see 44 (.bool true) (see_bool (by kernel_rfl) hc4) ?_
        refine aops_go 2 60 (by kernel_rfl) ?_
        refine aops_ask 47 (.bool (superV (opOf a))) 16 #[.int .i64 (opOf a)] (by kernel_rfl) (by kernel_rfl) (by kernel_rfl) (by kernel_rfl) rfl ?_
        refine aops_go 3 60 (by kernel_rfl) ?_
        refine aops_see 50 (.bool false) (see_bool (by kernel_rfl) (hc1 : ((superV (opOf a))) = false)) ?_
        refine aops_go 3 60 (by kernel_rfl) ?_
        rcases Bool.eq_false_or_eq_true ((((sizeV (opOf a)) : Int) != 1)) with hc5 | hc5
        · skip
          refine aops_see 53 (.bool true) (see_bool (by kernel_rfl) hc5) ?_
          refine aops_go 4 60 (by kernel_rfl) ?_
          rcases Bool.eq_false_or_eq_true ((((sizeV (opOf a)) : Int) != 2)) with hc6 | hc6
          · skip
            refine aops_see 57 (.bool true) (see_bool (by kernel_rfl) hc6) ?_
            refine aops_go 5 60 (by kernel_rfl) ?_
            refine aops_see 62 (.bool false) (see_bool (by kernel_rfl) ((za hc5 hc6) : ((((sizeV (opOf a)) : Int) != 5)) = false)) ?_
            refine aops_go 1 60 (by kernel_rfl) ?_
            refine aops_ask 64 (.bool (rightV (opOf a) (numOf (opOf a) v))) 19 #[.agg #[.int .i64 (opOf a), .int .u32 (numOf (opOf a) v)]] (by kernel_rfl) (by kernel_rfl) (by kernel_rfl) (by kernel_rfl) rfl ?_
            refine aops_go 3 60 (by kernel_rfl) ?_
            refine aops_see 67 (.bool false) (see_bool (by kernel_rfl) ((by rw [ra]; rfl) : (!(rightV (opOf a) (numOf (opOf a) v))) = false)) ?_
            refine aops_go 1 60 (by kernel_rfl) ?_
            refine aops_ask 69 (.string (textV (opOf a) (numOf (opOf a) v))) 20 #[.agg #[.int .i64 (opOf a), .int .u32 (numOf (opOf a) v)]] (by kernel_rfl) (by kernel_rfl) (by kernel_rfl) (by kernel_rfl) (orc20 _ _ ua) ?_
            refine aops_val 70 (.bool (decide ((textV (opOf a) (numOf (opOf a) v)) = ⟨⟨[63]⟩⟩))) (⟨heapOf [(3, ⟨[Value.int .i64 (opOf a), .int .u32 (numOf (opOf a) v)], 26, false⟩), (2, ⟨[Value.int .i64 (opOf a), .int .u32 (numOf (opOf a) v), .int .i64 (opOf b), .int .u32 (numOf (opOf b) w)], 26, false⟩), (1, ⟨[Value.int .i64 (opOf b), .int .u32 (numOf (opOf b) w)], 26, false⟩), (0, ⟨[Value.int .i64 (opOf a), .int .u32 (numOf (opOf a) v)], 26, false⟩)], 4⟩ : Heap) (by kernel_rfl) (by kernel_rfl) (by kernel_rfl) (ha_fb (op := .eql) (t := 9) (a := .tmp 69) (b := .const (.string ⟨⟨[63]⟩⟩)) (u := .string (textV (opOf a) (numOf (opOf a) v))) (v := .string ⟨⟨[63]⟩⟩) (by kernel_rfl) (by kernel_rfl) (by kernel_rfl) rfl rfl rfl (seq_run rfl) rfl) ?_
            refine aops_see 70 (.bool false) (see_bool (x := (decide ((textV (opOf a) (numOf (opOf a) v)) = ⟨⟨[63]⟩⟩))) (by kernel_rfl) ta) ?_
            refine aops_go 1 60 (by kernel_rfl) ?_
            refine aops_end (by kernel_rfl) ⟨rfl, ⟨by kernel_rfl, by kernel_rfl, by kernel_rfl, by kernel_rfl, by kernel_rfl, by kernel_rfl, True.intro⟩, by kernel_rfl⟩
          · skip
            refine aops_see 57 (.bool false) (see_bool (by kernel_rfl) hc6) ?_
            refine aops_go 6 60 (by kernel_rfl) ?_
            refine aops_ask 64 (.bool (rightV (opOf a) (numOf (opOf a) v))) 19 #[.agg #[.int .i64 (opOf a), .int .u32 (numOf (opOf a) v)]] (by kernel_rfl) (by kernel_rfl) (by kernel_rfl) (by kernel_rfl) rfl ?_
            refine aops_go 3 60 (by kernel_rfl) ?_
            refine aops_see 67 (.bool false) (see_bool (by kernel_rfl) ((by rw [ra]; rfl) : (!(rightV (opOf a) (numOf (opOf a) v))) = false)) ?_
            refine aops_go 1 60 (by kernel_rfl) ?_
            refine aops_ask 69 (.string (textV (opOf a) (numOf (opOf a) v))) 20 #[.agg #[.int .i64 (opOf a), .int .u32 (numOf (opOf a) v)]] (by kernel_rfl) (by kernel_rfl) (by kernel_rfl) (by kernel_rfl) (orc20 _ _ ua) ?_
            refine aops_val 70 (.bool (decide ((textV (opOf a) (numOf (opOf a) v)) = ⟨⟨[63]⟩⟩))) (⟨heapOf [(3, ⟨[Value.int .i64 (opOf a), .int .u32 (numOf (opOf a) v)], 26, false⟩), (2, ⟨[Value.int .i64 (opOf a), .int .u32 (numOf (opOf a) v), .int .i64 (opOf b), .int .u32 (numOf (opOf b) w)], 26, false⟩), (1, ⟨[Value.int .i64 (opOf b), .int .u32 (numOf (opOf b) w)], 26, false⟩), (0, ⟨[Value.int .i64 (opOf a), .int .u32 (numOf (opOf a) v)], 26, false⟩)], 4⟩ : Heap) (by kernel_rfl) (by kernel_rfl) (by kernel_rfl) (ha_fb (op := .eql) (t := 9) (a := .tmp 69) (b := .const (.string ⟨⟨[63]⟩⟩)) (u := .string (textV (opOf a) (numOf (opOf a) v))) (v := .string ⟨⟨[63]⟩⟩) (by kernel_rfl) (by kernel_rfl) (by kernel_rfl) rfl rfl rfl (seq_run rfl) rfl) ?_
            refine aops_see 70 (.bool false) (see_bool (x := (decide ((textV (opOf a) (numOf (opOf a) v)) = ⟨⟨[63]⟩⟩))) (by kernel_rfl) ta) ?_
            refine aops_go 1 60 (by kernel_rfl) ?_
            refine aops_end (by kernel_rfl) ⟨rfl, ⟨by kernel_rfl, by kernel_rfl, by kernel_rfl, by kernel_rfl, by kernel_rfl, by kernel_rfl, True.intro⟩, by kernel_rfl⟩
        · skip
          refine aops_see 53 (.bool false) (see_bool (by kernel_rfl) hc5) ?_
          refine aops_go 10 60 (by kernel_rfl) ?_
          refine aops_ask 64 (.bool (rightV (opOf a) (numOf (opOf a) v))) 19 #[.agg #[.int .i64 (opOf a), .int .u32 (numOf (opOf a) v)]] (by kernel_rfl) (by kernel_rfl) (by kernel_rfl) (by kernel_rfl) rfl ?_
          refine aops_go 3 60 (by kernel_rfl) ?_
          refine aops_see 67 (.bool false) (see_bool (by kernel_rfl) ((by rw [ra]; rfl) : (!(rightV (opOf a) (numOf (opOf a) v))) = false)) ?_
          refine aops_go 1 60 (by kernel_rfl) ?_
          refine aops_ask 69 (.string (textV (opOf a) (numOf (opOf a) v))) 20 #[.agg #[.int .i64 (opOf a), .int .u32 (numOf (opOf a) v)]] (by kernel_rfl) (by kernel_rfl) (by kernel_rfl) (by kernel_rfl) (orc20 _ _ ua) ?_
          refine aops_val 70 (.bool (decide ((textV (opOf a) (numOf (opOf a) v)) = ⟨⟨[63]⟩⟩))) (⟨heapOf [(3, ⟨[Value.int .i64 (opOf a), .int .u32 (numOf (opOf a) v)], 26, false⟩), (2, ⟨[Value.int .i64 (opOf a), .int .u32 (numOf (opOf a) v), .int .i64 (opOf b), .int .u32 (numOf (opOf b) w)], 26, false⟩), (1, ⟨[Value.int .i64 (opOf b), .int .u32 (numOf (opOf b) w)], 26, false⟩), (0, ⟨[Value.int .i64 (opOf a), .int .u32 (numOf (opOf a) v)], 26, false⟩)], 4⟩ : Heap) (by kernel_rfl) (by kernel_rfl) (by kernel_rfl) (ha_fb (op := .eql) (t := 9) (a := .tmp 69) (b := .const (.string ⟨⟨[63]⟩⟩)) (u := .string (textV (opOf a) (numOf (opOf a) v))) (v := .string ⟨⟨[63]⟩⟩) (by kernel_rfl) (by kernel_rfl) (by kernel_rfl) rfl rfl rfl (seq_run rfl) rfl) ?_
          refine aops_see 70 (.bool false) (see_bool (x := (decide ((textV (opOf a) (numOf (opOf a) v)) = ⟨⟨[63]⟩⟩))) (by kernel_rfl) ta) ?_
          refine aops_go 1 60 (by kernel_rfl) ?_
          refine aops_end (by kernel_rfl) ⟨rfl, ⟨by kernel_rfl, by kernel_rfl, by kernel_rfl, by kernel_rfl, by kernel_rfl, by kernel_rfl, True.intro⟩, by kernel_rfl⟩
      · skip
        refine aops_see 44 (.bool false) (see_bool (by kernel_rfl) hc4) ?_
        refine aops_go 9 60 (by kernel_rfl) ?_
        rcases Bool.eq_false_or_eq_true ((((sizeV (opOf a)) : Int) != 1)) with hc7 | hc7
        · skip
          refine aops_see 53 (.bool true) (see_bool (by kernel_rfl) hc7) ?_
          refine aops_go 4 60 (by kernel_rfl) ?_
          rcases Bool.eq_false_or_eq_true ((((sizeV (opOf a)) : Int) != 2)) with hc8 | hc8
          · skip
            refine aops_see 57 (.bool true) (see_bool (by kernel_rfl) hc8) ?_
            refine aops_go 5 60 (by kernel_rfl) ?_
            refine aops_see 62 (.bool false) (see_bool (by kernel_rfl) ((za hc7 hc8) : ((((sizeV (opOf a)) : Int) != 5)) = false)) ?_
            refine aops_go 1 60 (by kernel_rfl) ?_
            refine aops_ask 64 (.bool (rightV (opOf a) (numOf (opOf a) v))) 19 #[.agg #[.int .i64 (opOf a), .int .u32 (numOf (opOf a) v)]] (by kernel_rfl) (by kernel_rfl) (by kernel_rfl) (by kernel_rfl) rfl ?_
            refine aops_go 3 60 (by kernel_rfl) ?_
            refine aops_see 67 (.bool false) (see_bool (by kernel_rfl) ((by rw [ra]; rfl) : (!(rightV (opOf a) (numOf (opOf a) v))) = false)) ?_
            refine aops_go 1 60 (by kernel_rfl) ?_
            refine aops_ask 69 (.string (textV (opOf a) (numOf (opOf a) v))) 20 #[.agg #[.int .i64 (opOf a), .int .u32 (numOf (opOf a) v)]] (by kernel_rfl) (by kernel_rfl) (by kernel_rfl) (by kernel_rfl) (orc20 _ _ ua) ?_
            refine aops_val 70 (.bool (decide ((textV (opOf a) (numOf (opOf a) v)) = ⟨⟨[63]⟩⟩))) (⟨heapOf [(3, ⟨[Value.int .i64 (opOf a), .int .u32 (numOf (opOf a) v)], 26, false⟩), (2, ⟨[Value.int .i64 (opOf a), .int .u32 (numOf (opOf a) v), .int .i64 (opOf b), .int .u32 (numOf (opOf b) w)], 26, false⟩), (1, ⟨[Value.int .i64 (opOf b), .int .u32 (numOf (opOf b) w)], 26, false⟩), (0, ⟨[Value.int .i64 (opOf a), .int .u32 (numOf (opOf a) v)], 26, false⟩)], 4⟩ : Heap) (by kernel_rfl) (by kernel_rfl) (by kernel_rfl) (ha_fb (op := .eql) (t := 9) (a := .tmp 69) (b := .const (.string ⟨⟨[63]⟩⟩)) (u := .string (textV (opOf a) (numOf (opOf a) v))) (v := .string ⟨⟨[63]⟩⟩) (by kernel_rfl) (by kernel_rfl) (by kernel_rfl) rfl rfl rfl (seq_run rfl) rfl) ?_
            refine aops_see 70 (.bool false) (see_bool (x := (decide ((textV (opOf a) (numOf (opOf a) v)) = ⟨⟨[63]⟩⟩))) (by kernel_rfl) ta) ?_
            refine aops_go 1 60 (by kernel_rfl) ?_
            refine aops_end (by kernel_rfl) ⟨rfl, ⟨by kernel_rfl, by kernel_rfl, by kernel_rfl, by kernel_rfl, by kernel_rfl, by kernel_rfl, True.intro⟩, by kernel_rfl⟩
          · skip
            refine aops_see 57 (.bool false) (see_bool (by kernel_rfl) hc8) ?_
            refine aops_go 6 60 (by kernel_rfl) ?_
            refine aops_ask 64 (.bool (rightV (opOf a) (numOf (opOf a) v))) 19 #[.agg #[.int .i64 (opOf a), .int .u32 (numOf (opOf a) v)]] (by kernel_rfl) (by kernel_rfl) (by kernel_rfl) (by kernel_rfl) rfl ?_
            refine aops_go 3 60 (by kernel_rfl) ?_
            refine aops_see 67 (.bool false) (see_bool (by kernel_rfl) ((by rw [ra]; rfl) : (!(rightV (opOf a) (numOf (opOf a) v))) = false)) ?_
            refine aops_go 1 60 (by kernel_rfl) ?_
            refine aops_ask 69 (.string (textV (opOf a) (numOf (opOf a) v))) 20 #[.agg #[.int .i64 (opOf a), .int .u32 (numOf (opOf a) v)]] (by kernel_rfl) (by kernel_rfl) (by kernel_rfl) (by kernel_rfl) (orc20 _ _ ua) ?_
            refine aops_val 70 (.bool (decide ((textV (opOf a) (numOf (opOf a) v)) = ⟨⟨[63]⟩⟩))) (⟨heapOf [(3, ⟨[Value.int .i64 (opOf a), .int .u32 (numOf (opOf a) v)], 26, false⟩), (2, ⟨[Value.int .i64 (opOf a), .int .u32 (numOf (opOf a) v), .int .i64 (opOf b), .int .u32 (numOf (opOf b) w)], 26, false⟩), (1, ⟨[Value.int .i64 (opOf b), .int .u32 (numOf (opOf b) w)], 26, false⟩), (0, ⟨[Value.int .i64 (opOf a), .int .u32 (numOf (opOf a) v)], 26, false⟩)], 4⟩ : Heap) (by kernel_rfl) (by kernel_rfl) (by kernel_rfl) (ha_fb (op := .eql) (t := 9) (a := .tmp 69) (b := .const (.string ⟨⟨[63]⟩⟩)) (u := .string (textV (opOf a) (numOf (opOf a) v))) (v := .string ⟨⟨[63]⟩⟩) (by kernel_rfl) (by kernel_rfl) (by kernel_rfl) rfl rfl rfl (seq_run rfl) rfl) ?_
            refine aops_see 70 (.bool false) (see_bool (x := (decide ((textV (opOf a) (numOf (opOf a) v)) = ⟨⟨[63]⟩⟩))) (by kernel_rfl) ta) ?_
            refine aops_go 1 60 (by kernel_rfl) ?_
            refine aops_end (by kernel_rfl) ⟨rfl, ⟨by kernel_rfl, by kernel_rfl, by kernel_rfl, by kernel_rfl, by kernel_rfl, by kernel_rfl, True.intro⟩, by kernel_rfl⟩
        · skip
          refine aops_see 53 (.bool false) (see_bool (by kernel_rfl) hc7) ?_
          refine aops_go 10 60 (by kernel_rfl) ?_
          refine aops_ask 64 (.bool (rightV (opOf a) (numOf (opOf a) v))) 19 #[.agg #[.int .i64 (opOf a), .int .u32 (numOf (opOf a) v)]] (by kernel_rfl) (by kernel_rfl) (by kernel_rfl) (by kernel_rfl) rfl ?_
          refine aops_go 3 60 (by kernel_rfl) ?_
          refine aops_see 67 (.bool false) (see_bool (by kernel_rfl) ((by rw [ra]; rfl) : (!(rightV (opOf a) (numOf (opOf a) v))) = false)) ?_
          refine aops_go 1 60 (by kernel_rfl) ?_
          refine aops_ask 69 (.string (textV (opOf a) (numOf (opOf a) v))) 20 #[.agg #[.int .i64 (opOf a), .int .u32 (numOf (opOf a) v)]] (by kernel_rfl) (by kernel_rfl) (by kernel_rfl) (by kernel_rfl) (orc20 _ _ ua) ?_
          refine aops_val 70 (.bool (decide ((textV (opOf a) (numOf (opOf a) v)) = ⟨⟨[63]⟩⟩))) (⟨heapOf [(3, ⟨[Value.int .i64 (opOf a), .int .u32 (numOf (opOf a) v)], 26, false⟩), (2, ⟨[Value.int .i64 (opOf a), .int .u32 (numOf (opOf a) v), .int .i64 (opOf b), .int .u32 (numOf (opOf b) w)], 26, false⟩), (1, ⟨[Value.int .i64 (opOf b), .int .u32 (numOf (opOf b) w)], 26, false⟩), (0, ⟨[Value.int .i64 (opOf a), .int .u32 (numOf (opOf a) v)], 26, false⟩)], 4⟩ : Heap) (by kernel_rfl) (by kernel_rfl) (by kernel_rfl) (ha_fb (op := .eql) (t := 9) (a := .tmp 69) (b := .const (.string ⟨⟨[63]⟩⟩)) (u := .string (textV (opOf a) (numOf (opOf a) v))) (v := .string ⟨⟨[63]⟩⟩) (by kernel_rfl) (by kernel_rfl) (by kernel_rfl) rfl rfl rfl (seq_run rfl) rfl) ?_
          refine aops_see 70 (.bool false) (see_bool (x := (decide ((textV (opOf a) (numOf (opOf a) v)) = ⟨⟨[63]⟩⟩))) (by kernel_rfl) ta) ?_
          refine aops_go 1 60 (by kernel_rfl) ?_
          refine aops_end (by kernel_rfl) ⟨rfl, ⟨by kernel_rfl, by kernel_rfl, by kernel_rfl, by kernel_rfl, by kernel_rfl, by kernel_rfl, True.intro⟩, by kernel_rfl⟩
  · rintro s2 ⟨hkn2, hH2⟩
    refine (then_normal (aw_kn' [(9, .pointer (some ⟨0, 0, none⟩)), (10, .pointer (some ⟨1, 0, none⟩)), (22, .slice (some ⟨2, 0, none⟩) 2 2), (23, .int .i64 2), (24, .int .i64 0), (71, .bool false)] hkn2 hH2 fun tm2 => ?_))
    rw [f5bccacaaccaaccc_eq]
    refine aw_cond (t := false) (by kernel_rfl) ?_
    refine aw_skip (blk_normal (then_normal ?_))
    rw [f5bccacaaccc_eq]
    refine aw_reg ?_
    refine aops_go 2 60 (by kernel_rfl) ?_
    refine aops_end (by kernel_rfl) (then_normal (hK1_ _ ?_))
    refine aw_loop_k fun K2_ hK2_ => ?_
    rw [f5bccacaa_eq]
    refine aw_then ?_
    rw [f5bccacaaa_eq]
    refine aw_reg ?_
    refine aops_go 1 60 (by kernel_rfl) ?_
    refine aops_end (by kernel_rfl) (then_normal ?_)
    rw [f5bccacaac_eq]
    refine aw_then ?_
    rw [f5bccacaaca_eq]
    refine aw_cond (t := true) (by kernel_rfl) ?_
    refine aw_skip (then_normal ?_)
    rw [f5bccacaacc_eq]
    refine aw_then ?_
    rw [f5bccacaacca_eq]
    refine aw_block ?_
    rw [f5bccacaaccaa_eq]
    refine aw_then ?_
    rw [f5bccacaaccaaa_eq]
    refine aw_reg ?_
    refine aops_go 4 60 (by kernel_rfl) ?_
    refine aops_end (by kernel_rfl) (then_normal ?_)
    rw [f5bccacaaccaac_eq]
    refine aw_then ?_
    rw [f5bccacaaccaaca_eq]
    refine aw_reg ?_
    refine aops_go 2 60 (by kernel_rfl) ?_
    refine aops_ask 30 (.int .i64 (sizeV (opOf b))) 15 #[.int .i64 (opOf b)] (by kernel_rfl) (by kernel_rfl) (by kernel_rfl) (by kernel_rfl) rfl ?_
    refine aops_go 1 60 (by kernel_rfl) ?_
    refine aops_end (by kernel_rfl) (then_normal ?_)
    rw [f5bccacaaccaacc_eq]
    refine aw_then ?_
    rw [f5bccacaaccaacca_eq]
    refine aw_mid (fun s2 => Kn s2.tm [(9, .pointer (some ⟨0, 0, none⟩)), (10, .pointer (some ⟨1, 0, none⟩)), (22, .slice (some ⟨2, 0, none⟩) 2 2), (23, .int .i64 2), (24, .int .i64 1), (71, .bool false)] ∧ s2.H = (⟨heapOf [(4, ⟨[Value.int .i64 (opOf b), .int .u32 (numOf (opOf b) w)], 26, false⟩), (3, ⟨[Value.int .i64 (opOf a), .int .u32 (numOf (opOf a) v)], 26, false⟩), (2, ⟨[Value.int .i64 (opOf a), .int .u32 (numOf (opOf a) v), .int .i64 (opOf b), .int .u32 (numOf (opOf b) w)], 26, false⟩), (1, ⟨[Value.int .i64 (opOf b), .int .u32 (numOf (opOf b) w)], 26, false⟩), (0, ⟨[Value.int .i64 (opOf a), .int .u32 (numOf (opOf a) v)], 26, false⟩)], 5⟩ : Heap)) ?_ ?_
    · skip
      refine aw_reg ?_
      refine aops_go 2 60 (by kernel_rfl) ?_
      refine aops_ask 33 (.bool (superV (opOf b))) 16 #[.int .i64 (opOf b)] (by kernel_rfl) (by kernel_rfl) (by kernel_rfl) (by kernel_rfl) rfl ?_
      refine aops_go 1 60 (by kernel_rfl) ?_
      rcases Bool.eq_false_or_eq_true ((superV (opOf b))) with hc9 | hc9
      · skip
        refine aops_see 34 (.bool true) (see_bool (by kernel_rfl) hc9) ?_
        refine aops_go 2 60 (by kernel_rfl) ?_
        refine aops_ask 37 (.bool (endsV (opOf b))) 17 #[.int .i64 (opOf b)] (by kernel_rfl) (by kernel_rfl) (by kernel_rfl) (by kernel_rfl) rfl ?_
        refine aops_go 3 60 (by kernel_rfl) ?_
        refine aops_see 40 (.bool false) (see_bool (by kernel_rfl) ((by rw [(seb hc9)]; rfl) : (!(endsV (opOf b))) = false)) ?_
        refine aops_go 2 60 (by kernel_rfl) ?_
        refine aops_ask 43 (.bool (plainV (opOf b))) 18 #[.int .i64 (opOf b)] (by kernel_rfl) (by kernel_rfl) (by kernel_rfl) (by kernel_rfl) rfl ?_
        refine aops_go 1 60 (by kernel_rfl) ?_
        refine aops_see 44 (.bool false) (see_bool (by kernel_rfl) ((spb hc9) : ((plainV (opOf b))) = false)) ?_
        refine aops_go 9 60 (by kernel_rfl) ?_
        rcases Bool.eq_false_or_eq_true ((((sizeV (opOf b)) : Int) != 1)) with hc10 | hc10
        · skip
          refine aops_see 53 (.bool true) (see_bool (by kernel_rfl) hc10) ?_
          refine aops_go 4 60 (by kernel_rfl) ?_
          rcases Bool.eq_false_or_eq_true ((((sizeV (opOf b)) : Int) != 2)) with hc11 | hc11
          · skip
            refine aops_see 57 (.bool true) (see_bool (by kernel_rfl) hc11) ?_
            refine aops_go 5 60 (by kernel_rfl) ?_
            refine aops_see 62 (.bool false) (see_bool (by kernel_rfl) ((zb hc10 hc11) : ((((sizeV (opOf b)) : Int) != 5)) = false)) ?_
            refine aops_go 1 60 (by kernel_rfl) ?_
            refine aops_ask 64 (.bool (rightV (opOf b) (numOf (opOf b) w))) 19 #[.agg #[.int .i64 (opOf b), .int .u32 (numOf (opOf b) w)]] (by kernel_rfl) (by kernel_rfl) (by kernel_rfl) (by kernel_rfl) rfl ?_
            refine aops_go 3 60 (by kernel_rfl) ?_
            refine aops_see 67 (.bool false) (see_bool (by kernel_rfl) ((by rw [rb]; rfl) : (!(rightV (opOf b) (numOf (opOf b) w))) = false)) ?_
            refine aops_go 1 60 (by kernel_rfl) ?_
            refine aops_ask 69 (.string (textV (opOf b) (numOf (opOf b) w))) 20 #[.agg #[.int .i64 (opOf b), .int .u32 (numOf (opOf b) w)]] (by kernel_rfl) (by kernel_rfl) (by kernel_rfl) (by kernel_rfl) (orc20 _ _ ub) ?_
            refine aops_val 70 (.bool (decide ((textV (opOf b) (numOf (opOf b) w)) = ⟨⟨[63]⟩⟩))) (⟨heapOf [(4, ⟨[Value.int .i64 (opOf b), .int .u32 (numOf (opOf b) w)], 26, false⟩), (3, ⟨[Value.int .i64 (opOf a), .int .u32 (numOf (opOf a) v)], 26, false⟩), (2, ⟨[Value.int .i64 (opOf a), .int .u32 (numOf (opOf a) v), .int .i64 (opOf b), .int .u32 (numOf (opOf b) w)], 26, false⟩), (1, ⟨[Value.int .i64 (opOf b), .int .u32 (numOf (opOf b) w)], 26, false⟩), (0, ⟨[Value.int .i64 (opOf a), .int .u32 (numOf (opOf a) v)], 26, false⟩)], 5⟩ : Heap) (by kernel_rfl) (by kernel_rfl) (by kernel_rfl) (ha_fb (op := .eql) (t := 9) (a := .tmp 69) (b := .const (.string ⟨⟨[63]⟩⟩)) (u := .string (textV (opOf b) (numOf (opOf b) w))) (v := .string ⟨⟨[63]⟩⟩) (by kernel_rfl) (by kernel_rfl) (by kernel_rfl) rfl rfl rfl (seq_run rfl) rfl) ?_
            refine aops_see 70 (.bool false) (see_bool (x := (decide ((textV (opOf b) (numOf (opOf b) w)) = ⟨⟨[63]⟩⟩))) (by kernel_rfl) tb) ?_
            refine aops_go 1 60 (by kernel_rfl) ?_
            refine aops_end (by kernel_rfl) ⟨rfl, ⟨by kernel_rfl, by kernel_rfl, by kernel_rfl, by kernel_rfl, by kernel_rfl, by kernel_rfl, True.intro⟩, by kernel_rfl⟩
          · skip
            refine aops_see 57 (.bool false) (see_bool (by kernel_rfl) hc11) ?_
            refine aops_go 6 60 (by kernel_rfl) ?_
            refine aops_ask 64 (.bool (rightV (opOf b) (numOf (opOf b) w))) 19 #[.agg #[.int .i64 (opOf b), .int .u32 (numOf (opOf b) w)]] (by kernel_rfl) (by kernel_rfl) (by kernel_rfl) (by kernel_rfl) rfl ?_
            refine aops_go 3 60 (by kernel_rfl) ?_
            refine aops_see 67 (.bool false) (see_bool (by kernel_rfl) ((by rw [rb]; rfl) : (!(rightV (opOf b) (numOf (opOf b) w))) = false)) ?_
            refine aops_go 1 60 (by kernel_rfl) ?_
            refine aops_ask 69 (.string (textV (opOf b) (numOf (opOf b) w))) 20 #[.agg #[.int .i64 (opOf b), .int .u32 (numOf (opOf b) w)]] (by kernel_rfl) (by kernel_rfl) (by kernel_rfl) (by kernel_rfl) (orc20 _ _ ub) ?_
            refine aops_val 70 (.bool (decide ((textV (opOf b) (numOf (opOf b) w)) = ⟨⟨[63]⟩⟩))) (⟨heapOf [(4, ⟨[Value.int .i64 (opOf b), .int .u32 (numOf (opOf b) w)], 26, false⟩), (3, ⟨[Value.int .i64 (opOf a), .int .u32 (numOf (opOf a) v)], 26, false⟩), (2, ⟨[Value.int .i64 (opOf a), .int .u32 (numOf (opOf a) v), .int .i64 (opOf b), .int .u32 (numOf (opOf b) w)], 26, false⟩), (1, ⟨[Value.int .i64 (opOf b), .int .u32 (numOf (opOf b) w)], 26, false⟩), (0, ⟨[Value.int .i64 (opOf a), .int .u32 (numOf (opOf a) v)], 26, false⟩)], 5⟩ : Heap) (by kernel_rfl) (by kernel_rfl) (by kernel_rfl) (ha_fb (op := .eql) (t := 9) (a := .tmp 69) (b := .const (.string ⟨⟨[63]⟩⟩)) (u := .string (textV (opOf b) (numOf (opOf b) w))) (v := .string ⟨⟨[63]⟩⟩) (by kernel_rfl) (by kernel_rfl) (by kernel_rfl) rfl rfl rfl (seq_run rfl) rfl) ?_
            refine aops_see 70 (.bool false) (see_bool (x := (decide ((textV (opOf b) (numOf (opOf b) w)) = ⟨⟨[63]⟩⟩))) (by kernel_rfl) tb) ?_
            refine aops_go 1 60 (by kernel_rfl) ?_
            refine aops_end (by kernel_rfl) ⟨rfl, ⟨by kernel_rfl, by kernel_rfl, by kernel_rfl, by kernel_rfl, by kernel_rfl, by kernel_rfl, True.intro⟩, by kernel_rfl⟩
        · skip
          refine aops_see 53 (.bool false) (see_bool (by kernel_rfl) hc10) ?_
          refine aops_go 10 60 (by kernel_rfl) ?_
          refine aops_ask 64 (.bool (rightV (opOf b) (numOf (opOf b) w))) 19 #[.agg #[.int .i64 (opOf b), .int .u32 (numOf (opOf b) w)]] (by kernel_rfl) (by kernel_rfl) (by kernel_rfl) (by kernel_rfl) rfl ?_
          refine aops_go 3 60 (by kernel_rfl) ?_
          refine aops_see 67 (.bool false) (see_bool (by kernel_rfl) ((by rw [rb]; rfl) : (!(rightV (opOf b) (numOf (opOf b) w))) = false)) ?_
          refine aops_go 1 60 (by kernel_rfl) ?_
          refine aops_ask 69 (.string (textV (opOf b) (numOf (opOf b) w))) 20 #[.agg #[.int .i64 (opOf b), .int .u32 (numOf (opOf b) w)]] (by kernel_rfl) (by kernel_rfl) (by kernel_rfl) (by kernel_rfl) (orc20 _ _ ub) ?_
          refine aops_val 70 (.bool (decide ((textV (opOf b) (numOf (opOf b) w)) = ⟨⟨[63]⟩⟩))) (⟨heapOf [(4, ⟨[Value.int .i64 (opOf b), .int .u32 (numOf (opOf b) w)], 26, false⟩), (3, ⟨[Value.int .i64 (opOf a), .int .u32 (numOf (opOf a) v)], 26, false⟩), (2, ⟨[Value.int .i64 (opOf a), .int .u32 (numOf (opOf a) v), .int .i64 (opOf b), .int .u32 (numOf (opOf b) w)], 26, false⟩), (1, ⟨[Value.int .i64 (opOf b), .int .u32 (numOf (opOf b) w)], 26, false⟩), (0, ⟨[Value.int .i64 (opOf a), .int .u32 (numOf (opOf a) v)], 26, false⟩)], 5⟩ : Heap) (by kernel_rfl) (by kernel_rfl) (by kernel_rfl) (ha_fb (op := .eql) (t := 9) (a := .tmp 69) (b := .const (.string ⟨⟨[63]⟩⟩)) (u := .string (textV (opOf b) (numOf (opOf b) w))) (v := .string ⟨⟨[63]⟩⟩) (by kernel_rfl) (by kernel_rfl) (by kernel_rfl) rfl rfl rfl (seq_run rfl) rfl) ?_
          refine aops_see 70 (.bool false) (see_bool (x := (decide ((textV (opOf b) (numOf (opOf b) w)) = ⟨⟨[63]⟩⟩))) (by kernel_rfl) tb) ?_
          refine aops_go 1 60 (by kernel_rfl) ?_
          refine aops_end (by kernel_rfl) ⟨rfl, ⟨by kernel_rfl, by kernel_rfl, by kernel_rfl, by kernel_rfl, by kernel_rfl, by kernel_rfl, True.intro⟩, by kernel_rfl⟩
      · skip
        refine aops_see 34 (.bool false) (see_bool (by kernel_rfl) hc9) ?_
        refine aops_go 8 60 (by kernel_rfl) ?_
        refine aops_ask 43 (.bool (plainV (opOf b))) 18 #[.int .i64 (opOf b)] (by kernel_rfl) (by kernel_rfl) (by kernel_rfl) (by kernel_rfl) rfl ?_
        refine aops_go 1 60 (by kernel_rfl) ?_
        rcases Bool.eq_false_or_eq_true ((plainV (opOf b))) with hc12 | hc12
        · skip
          refine aops_see 44 (.bool true) (see_bool (by kernel_rfl) hc12) ?_
          refine aops_go 2 60 (by kernel_rfl) ?_
          refine aops_ask 47 (.bool (superV (opOf b))) 16 #[.int .i64 (opOf b)] (by kernel_rfl) (by kernel_rfl) (by kernel_rfl) (by kernel_rfl) rfl ?_
          refine aops_go 3 60 (by kernel_rfl) ?_
          refine aops_see 50 (.bool false) (see_bool (by kernel_rfl) (hc9 : ((superV (opOf b))) = false)) ?_
          refine aops_go 3 60 (by kernel_rfl) ?_
          rcases Bool.eq_false_or_eq_true ((((sizeV (opOf b)) : Int) != 1)) with hc13 | hc13
          · skip
            refine aops_see 53 (.bool true) (see_bool (by kernel_rfl) hc13) ?_
            refine aops_go 4 60 (by kernel_rfl) ?_
            rcases Bool.eq_false_or_eq_true ((((sizeV (opOf b)) : Int) != 2)) with hc14 | hc14
            · skip
              refine aops_see 57 (.bool true) (see_bool (by kernel_rfl) hc14) ?_
              refine aops_go 5 60 (by kernel_rfl) ?_
              refine aops_see 62 (.bool false) (see_bool (by kernel_rfl) ((zb hc13 hc14) : ((((sizeV (opOf b)) : Int) != 5)) = false)) ?_
              refine aops_go 1 60 (by kernel_rfl) ?_
              refine aops_ask 64 (.bool (rightV (opOf b) (numOf (opOf b) w))) 19 #[.agg #[.int .i64 (opOf b), .int .u32 (numOf (opOf b) w)]] (by kernel_rfl) (by kernel_rfl) (by kernel_rfl) (by kernel_rfl) rfl ?_
              refine aops_go 3 60 (by kernel_rfl) ?_
              refine aops_see 67 (.bool false) (see_bool (by kernel_rfl) ((by rw [rb]; rfl) : (!(rightV (opOf b) (numOf (opOf b) w))) = false)) ?_
              refine aops_go 1 60 (by kernel_rfl) ?_
              refine aops_ask 69 (.string (textV (opOf b) (numOf (opOf b) w))) 20 #[.agg #[.int .i64 (opOf b), .int .u32 (numOf (opOf b) w)]] (by kernel_rfl) (by kernel_rfl) (by kernel_rfl) (by kernel_rfl) (orc20 _ _ ub) ?_
              refine aops_val 70 (.bool (decide ((textV (opOf b) (numOf (opOf b) w)) = ⟨⟨[63]⟩⟩))) (⟨heapOf [(4, ⟨[Value.int .i64 (opOf b), .int .u32 (numOf (opOf b) w)], 26, false⟩), (3, ⟨[Value.int .i64 (opOf a), .int .u32 (numOf (opOf a) v)], 26, false⟩), (2, ⟨[Value.int .i64 (opOf a), .int .u32 (numOf (opOf a) v), .int .i64 (opOf b), .int .u32 (numOf (opOf b) w)], 26, false⟩), (1, ⟨[Value.int .i64 (opOf b), .int .u32 (numOf (opOf b) w)], 26, false⟩), (0, ⟨[Value.int .i64 (opOf a), .int .u32 (numOf (opOf a) v)], 26, false⟩)], 5⟩ : Heap) (by kernel_rfl) (by kernel_rfl) (by kernel_rfl) (ha_fb (op := .eql) (t := 9) (a := .tmp 69) (b := .const (.string ⟨⟨[63]⟩⟩)) (u := .string (textV (opOf b) (numOf (opOf b) w))) (v := .string ⟨⟨[63]⟩⟩) (by kernel_rfl) (by kernel_rfl) (by kernel_rfl) rfl rfl rfl (seq_run rfl) rfl) ?_
              refine aops_see 70 (.bool false) (see_bool (x := (decide ((textV (opOf b) (numOf (opOf b) w)) = ⟨⟨[63]⟩⟩))) (by kernel_rfl) tb) ?_
              refine aops_go 1 60 (by kernel_rfl) ?_
              refine aops_end (by kernel_rfl) ⟨rfl, ⟨by kernel_rfl, by kernel_rfl, by kernel_rfl, by kernel_rfl, by kernel_rfl, by kernel_rfl, True.intro⟩, by kernel_rfl⟩
            · skip
              refine aops_see 57 (.bool false) (see_bool (by kernel_rfl) hc14) ?_
              refine aops_go 6 60 (by kernel_rfl) ?_
              refine aops_ask 64 (.bool (rightV (opOf b) (numOf (opOf b) w))) 19 #[.agg #[.int .i64 (opOf b), .int .u32 (numOf (opOf b) w)]] (by kernel_rfl) (by kernel_rfl) (by kernel_rfl) (by kernel_rfl) rfl ?_
              refine aops_go 3 60 (by kernel_rfl) ?_
              refine aops_see 67 (.bool false) (see_bool (by kernel_rfl) ((by rw [rb]; rfl) : (!(rightV (opOf b) (numOf (opOf b) w))) = false)) ?_
              refine aops_go 1 60 (by kernel_rfl) ?_
              refine aops_ask 69 (.string (textV (opOf b) (numOf (opOf b) w))) 20 #[.agg #[.int .i64 (opOf b), .int .u32 (numOf (opOf b) w)]] (by kernel_rfl) (by kernel_rfl) (by kernel_rfl) (by kernel_rfl) (orc20 _ _ ub) ?_
              refine aops_val 70 (.bool (decide ((textV (opOf b) (numOf (opOf b) w)) = ⟨⟨[63]⟩⟩))) (⟨heapOf [(4, ⟨[Value.int .i64 (opOf b), .int .u32 (numOf (opOf b) w)], 26, false⟩), (3, ⟨[Value.int .i64 (opOf a), .int .u32 (numOf (opOf a) v)], 26, false⟩), (2, ⟨[Value.int .i64 (opOf a), .int .u32 (numOf (opOf a) v), .int .i64 (opOf b), .int .u32 (numOf (opOf b) w)], 26, false⟩), (1, ⟨[Value.int .i64 (opOf b), .int .u32 (numOf (opOf b) w)], 26, false⟩), (0, ⟨[Value.int .i64 (opOf a), .int .u32 (numOf (opOf a) v)], 26, false⟩)], 5⟩ : Heap) (by kernel_rfl) (by kernel_rfl) (by kernel_rfl) (ha_fb (op := .eql) (t := 9) (a := .tmp 69) (b := .const (.string ⟨⟨[63]⟩⟩)) (u := .string (textV (opOf b) (numOf (opOf b) w))) (v := .string ⟨⟨[63]⟩⟩) (by kernel_rfl) (by kernel_rfl) (by kernel_rfl) rfl rfl rfl (seq_run rfl) rfl) ?_
              refine aops_see 70 (.bool false) (see_bool (x := (decide ((textV (opOf b) (numOf (opOf b) w)) = ⟨⟨[63]⟩⟩))) (by kernel_rfl) tb) ?_
              refine aops_go 1 60 (by kernel_rfl) ?_
              refine aops_end (by kernel_rfl) ⟨rfl, ⟨by kernel_rfl, by kernel_rfl, by kernel_rfl, by kernel_rfl, by kernel_rfl, by kernel_rfl, True.intro⟩, by kernel_rfl⟩
          · skip
            refine aops_see 53 (.bool false) (see_bool (by kernel_rfl) hc13) ?_
            refine aops_go 10 60 (by kernel_rfl) ?_
            refine aops_ask 64 (.bool (rightV (opOf b) (numOf (opOf b) w))) 19 #[.agg #[.int .i64 (opOf b), .int .u32 (numOf (opOf b) w)]] (by kernel_rfl) (by kernel_rfl) (by kernel_rfl) (by kernel_rfl) rfl ?_
            refine aops_go 3 60 (by kernel_rfl) ?_
            refine aops_see 67 (.bool false) (see_bool (by kernel_rfl) ((by rw [rb]; rfl) : (!(rightV (opOf b) (numOf (opOf b) w))) = false)) ?_
            refine aops_go 1 60 (by kernel_rfl) ?_
            refine aops_ask 69 (.string (textV (opOf b) (numOf (opOf b) w))) 20 #[.agg #[.int .i64 (opOf b), .int .u32 (numOf (opOf b) w)]] (by kernel_rfl) (by kernel_rfl) (by kernel_rfl) (by kernel_rfl) (orc20 _ _ ub) ?_
            refine aops_val 70 (.bool (decide ((textV (opOf b) (numOf (opOf b) w)) = ⟨⟨[63]⟩⟩))) (⟨heapOf [(4, ⟨[Value.int .i64 (opOf b), .int .u32 (numOf (opOf b) w)], 26, false⟩), (3, ⟨[Value.int .i64 (opOf a), .int .u32 (numOf (opOf a) v)], 26, false⟩), (2, ⟨[Value.int .i64 (opOf a), .int .u32 (numOf (opOf a) v), .int .i64 (opOf b), .int .u32 (numOf (opOf b) w)], 26, false⟩), (1, ⟨[Value.int .i64 (opOf b), .int .u32 (numOf (opOf b) w)], 26, false⟩), (0, ⟨[Value.int .i64 (opOf a), .int .u32 (numOf (opOf a) v)], 26, false⟩)], 5⟩ : Heap) (by kernel_rfl) (by kernel_rfl) (by kernel_rfl) (ha_fb (op := .eql) (t := 9) (a := .tmp 69) (b := .const (.string ⟨⟨[63]⟩⟩)) (u := .string (textV (opOf b) (numOf (opOf b) w))) (v := .string ⟨⟨[63]⟩⟩) (by kernel_rfl) (by kernel_rfl) (by kernel_rfl) rfl rfl rfl (seq_run rfl) rfl) ?_
            refine aops_see 70 (.bool false) (see_bool (x := (decide ((textV (opOf b) (numOf (opOf b) w)) = ⟨⟨[63]⟩⟩))) (by kernel_rfl) tb) ?_
            refine aops_go 1 60 (by kernel_rfl) ?_
            refine aops_end (by kernel_rfl) ⟨rfl, ⟨by kernel_rfl, by kernel_rfl, by kernel_rfl, by kernel_rfl, by kernel_rfl, by kernel_rfl, True.intro⟩, by kernel_rfl⟩
        · skip
          refine aops_see 44 (.bool false) (see_bool (by kernel_rfl) hc12) ?_
          refine aops_go 9 60 (by kernel_rfl) ?_
          rcases Bool.eq_false_or_eq_true ((((sizeV (opOf b)) : Int) != 1)) with hc15 | hc15
          · skip
            refine aops_see 53 (.bool true) (see_bool (by kernel_rfl) hc15) ?_
            refine aops_go 4 60 (by kernel_rfl) ?_
            rcases Bool.eq_false_or_eq_true ((((sizeV (opOf b)) : Int) != 2)) with hc16 | hc16
            · skip
              refine aops_see 57 (.bool true) (see_bool (by kernel_rfl) hc16) ?_
              refine aops_go 5 60 (by kernel_rfl) ?_
              refine aops_see 62 (.bool false) (see_bool (by kernel_rfl) ((zb hc15 hc16) : ((((sizeV (opOf b)) : Int) != 5)) = false)) ?_
              refine aops_go 1 60 (by kernel_rfl) ?_
              refine aops_ask 64 (.bool (rightV (opOf b) (numOf (opOf b) w))) 19 #[.agg #[.int .i64 (opOf b), .int .u32 (numOf (opOf b) w)]] (by kernel_rfl) (by kernel_rfl) (by kernel_rfl) (by kernel_rfl) rfl ?_
              refine aops_go 3 60 (by kernel_rfl) ?_
              refine aops_see 67 (.bool false) (see_bool (by kernel_rfl) ((by rw [rb]; rfl) : (!(rightV (opOf b) (numOf (opOf b) w))) = false)) ?_
              refine aops_go 1 60 (by kernel_rfl) ?_
              refine aops_ask 69 (.string (textV (opOf b) (numOf (opOf b) w))) 20 #[.agg #[.int .i64 (opOf b), .int .u32 (numOf (opOf b) w)]] (by kernel_rfl) (by kernel_rfl) (by kernel_rfl) (by kernel_rfl) (orc20 _ _ ub) ?_
              refine aops_val 70 (.bool (decide ((textV (opOf b) (numOf (opOf b) w)) = ⟨⟨[63]⟩⟩))) (⟨heapOf [(4, ⟨[Value.int .i64 (opOf b), .int .u32 (numOf (opOf b) w)], 26, false⟩), (3, ⟨[Value.int .i64 (opOf a), .int .u32 (numOf (opOf a) v)], 26, false⟩), (2, ⟨[Value.int .i64 (opOf a), .int .u32 (numOf (opOf a) v), .int .i64 (opOf b), .int .u32 (numOf (opOf b) w)], 26, false⟩), (1, ⟨[Value.int .i64 (opOf b), .int .u32 (numOf (opOf b) w)], 26, false⟩), (0, ⟨[Value.int .i64 (opOf a), .int .u32 (numOf (opOf a) v)], 26, false⟩)], 5⟩ : Heap) (by kernel_rfl) (by kernel_rfl) (by kernel_rfl) (ha_fb (op := .eql) (t := 9) (a := .tmp 69) (b := .const (.string ⟨⟨[63]⟩⟩)) (u := .string (textV (opOf b) (numOf (opOf b) w))) (v := .string ⟨⟨[63]⟩⟩) (by kernel_rfl) (by kernel_rfl) (by kernel_rfl) rfl rfl rfl (seq_run rfl) rfl) ?_
              refine aops_see 70 (.bool false) (see_bool (x := (decide ((textV (opOf b) (numOf (opOf b) w)) = ⟨⟨[63]⟩⟩))) (by kernel_rfl) tb) ?_
              refine aops_go 1 60 (by kernel_rfl) ?_
              refine aops_end (by kernel_rfl) ⟨rfl, ⟨by kernel_rfl, by kernel_rfl, by kernel_rfl, by kernel_rfl, by kernel_rfl, by kernel_rfl, True.intro⟩, by kernel_rfl⟩
            · skip
              refine aops_see 57 (.bool false) (see_bool (by kernel_rfl) hc16) ?_
              refine aops_go 6 60 (by kernel_rfl) ?_
              refine aops_ask 64 (.bool (rightV (opOf b) (numOf (opOf b) w))) 19 #[.agg #[.int .i64 (opOf b), .int .u32 (numOf (opOf b) w)]] (by kernel_rfl) (by kernel_rfl) (by kernel_rfl) (by kernel_rfl) rfl ?_
              refine aops_go 3 60 (by kernel_rfl) ?_
              refine aops_see 67 (.bool false) (see_bool (by kernel_rfl) ((by rw [rb]; rfl) : (!(rightV (opOf b) (numOf (opOf b) w))) = false)) ?_
              refine aops_go 1 60 (by kernel_rfl) ?_
              refine aops_ask 69 (.string (textV (opOf b) (numOf (opOf b) w))) 20 #[.agg #[.int .i64 (opOf b), .int .u32 (numOf (opOf b) w)]] (by kernel_rfl) (by kernel_rfl) (by kernel_rfl) (by kernel_rfl) (orc20 _ _ ub) ?_
              refine aops_val 70 (.bool (decide ((textV (opOf b) (numOf (opOf b) w)) = ⟨⟨[63]⟩⟩))) (⟨heapOf [(4, ⟨[Value.int .i64 (opOf b), .int .u32 (numOf (opOf b) w)], 26, false⟩), (3, ⟨[Value.int .i64 (opOf a), .int .u32 (numOf (opOf a) v)], 26, false⟩), (2, ⟨[Value.int .i64 (opOf a), .int .u32 (numOf (opOf a) v), .int .i64 (opOf b), .int .u32 (numOf (opOf b) w)], 26, false⟩), (1, ⟨[Value.int .i64 (opOf b), .int .u32 (numOf (opOf b) w)], 26, false⟩), (0, ⟨[Value.int .i64 (opOf a), .int .u32 (numOf (opOf a) v)], 26, false⟩)], 5⟩ : Heap) (by kernel_rfl) (by kernel_rfl) (by kernel_rfl) (ha_fb (op := .eql) (t := 9) (a := .tmp 69) (b := .const (.string ⟨⟨[63]⟩⟩)) (u := .string (textV (opOf b) (numOf (opOf b) w))) (v := .string ⟨⟨[63]⟩⟩) (by kernel_rfl) (by kernel_rfl) (by kernel_rfl) rfl rfl rfl (seq_run rfl) rfl) ?_
              refine aops_see 70 (.bool false) (see_bool (x := (decide ((textV (opOf b) (numOf (opOf b) w)) = ⟨⟨[63]⟩⟩))) (by kernel_rfl) tb) ?_
              refine aops_go 1 60 (by kernel_rfl) ?_
              refine aops_end (by kernel_rfl) ⟨rfl, ⟨by kernel_rfl, by kernel_rfl, by kernel_rfl, by kernel_rfl, by kernel_rfl, by kernel_rfl, True.intro⟩, by kernel_rfl⟩
          · skip
            refine aops_see 53 (.bool false) (see_bool (by kernel_rfl) hc15) ?_
            refine aops_go 10 60 (by kernel_rfl) ?_
            refine aops_ask 64 (.bool (rightV (opOf b) (numOf (opOf b) w))) 19 #[.agg #[.int .i64 (opOf b), .int .u32 (numOf (opOf b) w)]] (by kernel_rfl) (by kernel_rfl) (by kernel_rfl) (by kernel_rfl) rfl ?_
            refine aops_go 3 60 (by kernel_rfl) ?_
            refine aops_see 67 (.bool false) (see_bool (by kernel_rfl) ((by rw [rb]; rfl) : (!(rightV (opOf b) (numOf (opOf b) w))) = false)) ?_
            refine aops_go 1 60 (by kernel_rfl) ?_
            refine aops_ask 69 (.string (textV (opOf b) (numOf (opOf b) w))) 20 #[.agg #[.int .i64 (opOf b), .int .u32 (numOf (opOf b) w)]] (by kernel_rfl) (by kernel_rfl) (by kernel_rfl) (by kernel_rfl) (orc20 _ _ ub) ?_
            refine aops_val 70 (.bool (decide ((textV (opOf b) (numOf (opOf b) w)) = ⟨⟨[63]⟩⟩))) (⟨heapOf [(4, ⟨[Value.int .i64 (opOf b), .int .u32 (numOf (opOf b) w)], 26, false⟩), (3, ⟨[Value.int .i64 (opOf a), .int .u32 (numOf (opOf a) v)], 26, false⟩), (2, ⟨[Value.int .i64 (opOf a), .int .u32 (numOf (opOf a) v), .int .i64 (opOf b), .int .u32 (numOf (opOf b) w)], 26, false⟩), (1, ⟨[Value.int .i64 (opOf b), .int .u32 (numOf (opOf b) w)], 26, false⟩), (0, ⟨[Value.int .i64 (opOf a), .int .u32 (numOf (opOf a) v)], 26, false⟩)], 5⟩ : Heap) (by kernel_rfl) (by kernel_rfl) (by kernel_rfl) (ha_fb (op := .eql) (t := 9) (a := .tmp 69) (b := .const (.string ⟨⟨[63]⟩⟩)) (u := .string (textV (opOf b) (numOf (opOf b) w))) (v := .string ⟨⟨[63]⟩⟩) (by kernel_rfl) (by kernel_rfl) (by kernel_rfl) rfl rfl rfl (seq_run rfl) rfl) ?_
            refine aops_see 70 (.bool false) (see_bool (x := (decide ((textV (opOf b) (numOf (opOf b) w)) = ⟨⟨[63]⟩⟩))) (by kernel_rfl) tb) ?_
            refine aops_go 1 60 (by kernel_rfl) ?_
            refine aops_end (by kernel_rfl) ⟨rfl, ⟨by kernel_rfl, by kernel_rfl, by kernel_rfl, by kernel_rfl, by kernel_rfl, by kernel_rfl, True.intro⟩, by kernel_rfl⟩
    · rintro s2 ⟨hkn2, hH2⟩
      refine (then_normal (aw_kn' [(9, .pointer (some ⟨0, 0, none⟩)), (10, .pointer (some ⟨1, 0, none⟩)), (22, .slice (some ⟨2, 0, none⟩) 2 2), (23, .int .i64 2), (24, .int .i64 1), (71, .bool false)] hkn2 hH2 fun tm2 => ?_))
      rw [f5bccacaaccaaccc_eq]
      refine aw_cond (t := false) (by kernel_rfl) ?_
      refine aw_skip (blk_normal (then_normal ?_))
      rw [f5bccacaaccc_eq]
      refine aw_reg ?_
      refine aops_go 2 60 (by kernel_rfl) ?_
      refine aops_end (by kernel_rfl) (then_normal (hK2_ _ ?_))
      refine aw_loop_k fun K3_ hK3_ => ?_
      rw [f5bccacaa_eq]
      refine aw_then ?_
      rw [f5bccacaaa_eq]
      refine aw_reg ?_
      refine aops_go 1 60 (by kernel_rfl) ?_
      refine aops_end (by kernel_rfl) (then_normal ?_)
      rw [f5bccacaac_eq]
      refine aw_then ?_
      rw [f5bccacaaca_eq]
      refine aw_cond (t := false) (by kernel_rfl) ?_
      refine aw_exit (then_exit (then_exit (blk_hit (then_normal ?_))))
      rw [f5bccc_eq]
      refine aw_then ?_
      rw [f5bccca_eq]
      refine aw_drawC ?_
      refine aopsC_get 73 (.agg #[.int .i64 (opOf a), .int .u32 (numOf (opOf a) v)]) (by kernel_rfl) (by kernel_rfl) (by kernel_rfl) (by simp [veq, veqs, veq0]) (by kernel_rfl) ?_
      refine aopsC_ask 74 (.string (textV (opOf a) (numOf (opOf a) v))) 20 #[.agg #[.int .i64 (opOf a), .int .u32 (numOf (opOf a) v)]] (by kernel_rfl) (by kernel_rfl) (by kernel_rfl) (by kernel_rfl) (orc20 _ _ ua) ?_
      refine aopsC_get 75 (.agg #[.int .i64 (opOf b), .int .u32 (numOf (opOf b) w)]) (by kernel_rfl) (by kernel_rfl) (by kernel_rfl) (by simp [veq, veqs, veq0]) (by kernel_rfl) ?_
      refine aopsC_ask 76 (.string (textV (opOf b) (numOf (opOf b) w))) 20 #[.agg #[.int .i64 (opOf b), .int .u32 (numOf (opOf b) w)]] (by kernel_rfl) (by kernel_rfl) (by kernel_rfl) (by kernel_rfl) (orc20 _ _ ub) ?_
      refine aopsC_pt 77 (.bool (decide ((textV (opOf a) (numOf (opOf a) v)) = (textV (opOf b) (numOf (opOf b) w))))) (by kernel_rfl) (by kernel_rfl) (by kernel_rfl) (by kernel_rfl) (ha_fb (op := .eql) (t := 9) (a := .tmp 74) (b := .tmp 76) (u := .string (textV (opOf a) (numOf (opOf a) v))) (v := .string (textV (opOf b) (numOf (opOf b) w))) (by kernel_rfl) (by kernel_rfl) (by kernel_rfl) rfl rfl rfl (seq_run rfl) rfl) ?_
      refine aopsC_get 78 (.agg #[.int .i64 (opOf a), .int .u32 (numOf (opOf a) v)]) (by kernel_rfl) (by kernel_rfl) (by kernel_rfl) (by simp [veq, veqs, veq0]) (by kernel_rfl) ?_
      refine aopsC_get 79 (.agg #[.int .i64 (opOf b), .int .u32 (numOf (opOf b) w)]) (by kernel_rfl) (by kernel_rfl) (by kernel_rfl) (by simp [veq, veqs, veq0]) (by kernel_rfl) ?_
      refine aopsC_go 2 (by kernel_rfl) ?_
      refine aopsC_see 81 (.bool true) (see_bool (x := ((decide ((textV (opOf a) (numOf (opOf a) v)) = (textV (opOf b) (numOf (opOf b) w)))) == ((((opOf a) : Int) == (opOf b)) && ((((numOf (opOf a) v) : Int) == (numOf (opOf b) w)) && true)))) (by kernel_rfl) (text_eq (opOf_in a) (opOf_in b) ua ub ra rb)) ?_
      refine aopsC_go 1 (by kernel_rfl) ?_
      refine aopsC_ask 83 (.bool true) 11 #[] (by kernel_rfl) (by kernel_rfl) (by kernel_rfl) (by kernel_rfl) rfl ?_
      refine aopsC_go 2 (by kernel_rfl) ?_
      refine aopsC_end (by kernel_rfl) (then_normal ?_)
      refine aw_ret (bodyQ_ret ⟨.bool true, (by kernel_rfl), ?_⟩)
      rfl
end Gc
end Go.Proofs.YtpfmmckbfejfnaaDoor
