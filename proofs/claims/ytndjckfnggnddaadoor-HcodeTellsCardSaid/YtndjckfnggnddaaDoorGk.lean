/- Chapter 3: texts, and bytes, of unlike instructions are unlike. -/
import Derived.Test.YtndjckfnggnddaaDoorGt
namespace Go.Proofs.YtndjckfnggnddaaDoor
open Go Go.Ev Go.RowKit
set_option linter.unusedVariables false
set_option linter.unusedSimpArgs false
set_option maxRecDepth 100000
namespace Hc
def vl (l : List UInt8) : Nat := l.foldl (fun a c => a * 10 + (c.toNat - 48)) 0
theorem vl_dec (n : Nat) : vl (Lib.decDigits n) = n := by
  induction n using Nat.strongRecOn with
  | _ n ih =>
    have hd : ∀ d : Nat, d < 10 → (UInt8.ofNat (48 + d)).toNat - 48 = d := fun d hd => by
      rw [UInt8.toNat_ofNat']; omega
    by_cases h : n < 10
    · rw [Lib.decDigits, dif_pos h]
      simp only [vl, List.foldl_cons, List.foldl_nil]
      rw [hd n h]; omega
    · rw [Lib.decDigits, dif_neg h]
      have := ih (n / 10) (by omega)
      unfold vl at this ⊢
      rw [List.foldl_append]
      simp only [List.foldl_cons, List.foldl_nil]
      rw [this, hd (n % 10) (by omega)]; omega
theorem dec_inj {a b : Int} (ha : u32B a = true) (hb : u32B b = true) (h : dec a = dec b) : a = b := by
  simp only [u32B, Bool.and_eq_true, decide_eq_true_eq] at ha hb
  obtain ⟨i, rfl⟩ : ∃ k : Nat, a = k := ⟨a.toNat, by omega⟩
  obtain ⟨j, rfl⟩ : ∃ k : Nat, b = k := ⟨b.toNat, by omega⟩
  rw [dec_eq i (by omega), dec_eq j (by omega)] at h
  have h2 : Lib.decDigits i = Lib.decDigits j := by
    have := congrArg (fun b : ByteArray => b.data.toList) h
    exact this
  have := vl_dec i
  rw [h2, vl_dec] at this
  omega
theorem cut_eq {α : Type} {c : α} : ∀ {a b x y : List α}, c ∉ a → c ∉ b → a ++ c :: x = b ++ c :: y → a = b ∧ x = y := by
  intro a
  induction a with
  | nil =>
    intro b x y _ hb h
    cases b with
    | nil => simpa using h
    | cons d b => simp at h; exact absurd h.1 (fun e => hb (by simp [e]))
  | cons d a ih =>
    intro b x y ha hb h
    cases b with
    | nil => simp at h; exact absurd h.1 (fun e => ha (by simp [e]))
    | cons e b =>
      simp at h
      obtain ⟨rfl, h⟩ := h
      obtain ⟨rfl, rfl⟩ := ih (fun m => ha (by simp [m])) (fun m => hb (by simp [m])) h
      exact ⟨rfl, rfl⟩
theorem digits_ge (n : Nat) : ∀ c ∈ Lib.decDigits n, 48 ≤ c.toNat := by
  induction n using Nat.strongRecOn with
  | _ n ih =>
    have hd : ∀ d : Nat, d < 10 → 48 ≤ (UInt8.ofNat (48 + d)).toNat := fun d hd => by
      rw [UInt8.toNat_ofNat']; omega
    intro c hc
    by_cases h : n < 10
    · rw [Lib.decDigits, dif_pos h] at hc
      simp only [List.mem_singleton] at hc
      rw [hc]; exact hd n h
    · rw [Lib.decDigits, dif_neg h] at hc
      rcases List.mem_append.1 hc with hc | hc
      · exact ih (n / 10) (by omega) c hc
      · simp only [List.mem_singleton] at hc
        rw [hc]; exact hd (n % 10) (by omega)
theorem dec_sp {a : Int} (ha : u32B a = true) : (32 : UInt8) ∉ (dec a).data.toList := by
  simp only [u32B, Bool.and_eq_true, decide_eq_true_eq] at ha
  obtain ⟨i, rfl⟩ : ∃ k : Nat, a = k := ⟨a.toNat, by omega⟩
  rw [dec_eq i (by omega)]
  intro h
  have := digits_ge i 32 h
  exact absurd this (by decide)
theorem names_sp : nameT.all (fun b => !b.data.toList.contains 32) = true := by kernel_rfl
theorem name_sp (op : Int) : (32 : UInt8) ∉ (nameV op).data.toList := by
  unfold nameV
  cases h : inT op
  · simp
  · simp only [cond_true, List.getD_eq_getElem?_getD]
    cases hk : nameT[op.toNat]? with
    | none => simp
    | some k =>
      have := List.all_eq_true.1 names_sp k (List.mem_of_getElem? hk)
      simpa using this
theorem names_apart : (List.range 20).all (fun a => (List.range 20).all fun b => a == b || !((nameT.getD a ⟨⟨[]⟩⟩).data.toList == (nameT.getD b ⟨⟨[]⟩⟩).data.toList)) = true := by kernel_rfl
theorem name_inj {a b : Int} (ha : inT a = true) (hb : inT b = true) (h : (nameV a).data.toList = (nameV b).data.toList) : a = b := by
  unfold nameV at h
  rw [ha, hb] at h
  simp only [cond_true] at h
  simp only [inT, Bool.and_eq_true, decide_eq_true_eq] at ha hb
  have := List.all_eq_true.1 (List.all_eq_true.1 names_apart a.toNat (by rw [List.mem_range]; omega)) b.toNat (by rw [List.mem_range]; omega)
  simp only [Bool.or_eq_true, beq_iff_eq, Bool.not_eq_true'] at this
  rcases this with h1 | h1
  · omega
  · rw [h] at h1; simp at h1
theorem bytes_eq {x y : ByteArray} (h : x.data.toList = y.data.toList) : x = y := by
  cases x; cases y; congr 1; exact Array.ext' h
theorem textR_bytes (op rd ra rb im : Int) : (textR op rd ra rb im).data.toList = (nameV op).data.toList ++ 32 :: ((dec rd).data.toList ++ 32 :: ((dec ra).data.toList ++ 32 :: ((dec rb).data.toList ++ 32 :: (dec im).data.toList))) := by
  unfold textR
  simp
theorem text_inj {a b c d e a' b' c' d' e' : Int} (h1 : rightV a b c d e = true) (h2 : rightV a' b' c' d' e' = true) (he : u32B e = true) (he' : u32B e' = true) (h : textV a b c d e = textV a' b' c' d' e') : a = a' ∧ b = b' ∧ c = c' ∧ d = d' ∧ e = e' := by
  rw [text_yes h1, text_yes h2] at h
  obtain ⟨q0, q1, q2, q3⟩ := right_regs h1
  obtain ⟨r0, r1, r2, r3⟩ := right_regs h2
  have hb := congrArg (fun b : ByteArray => b.data.toList) h
  simp only [textR_bytes] at hb
  obtain ⟨e0, hb⟩ := cut_eq (name_sp _) (name_sp _) hb
  obtain ⟨e1, hb⟩ := cut_eq (dec_sp (reg_u32 q1)) (dec_sp (reg_u32 r1)) hb
  obtain ⟨e2, hb⟩ := cut_eq (dec_sp (reg_u32 q2)) (dec_sp (reg_u32 r2)) hb
  obtain ⟨e3, e4⟩ := cut_eq (dec_sp (reg_u32 q3)) (dec_sp (reg_u32 r3)) hb
  exact ⟨name_inj q0 r0 e0, dec_inj (reg_u32 q1) (reg_u32 r1) (bytes_eq e1), dec_inj (reg_u32 q2) (reg_u32 r2) (bytes_eq e2), dec_inj (reg_u32 q3) (reg_u32 r3) (bytes_eq e3), dec_inj he he' (bytes_eq e4)⟩
theorem iff5 {P : Prop} [Decidable P] {a b c d e a' b' c' d' e' : Int} (h : P → a = a' ∧ b = b' ∧ c = c' ∧ d = d' ∧ e = e') (k : a = a' ∧ b = b' ∧ c = c' ∧ d = d' ∧ e = e' → P) : (decide P == ((a == a') && ((b == b') && ((c == c') && ((d == d') && ((e == e') && true)))))) = true := by
  by_cases hp : P
  · obtain ⟨rfl, rfl, rfl, rfl, rfl⟩ := h hp
    simp [hp]
  · have : ¬ (a = a' ∧ b = b' ∧ c = c' ∧ d = d' ∧ e = e') := fun x => hp (k x)
    simp only [hp, decide_false, Bool.and_true, beq_iff_eq]
    apply Eq.symm
    rw [Bool.eq_false_iff]
    intro hx
    simp only [Bool.and_eq_true, beq_iff_eq] at hx
    exact this hx
theorem text_eq {a b c d e a' b' c' d' e' : Int} (h1 : rightV a b c d e = true) (h2 : rightV a' b' c' d' e' = true) (he : u32B e = true) (he' : u32B e' = true) : (decide (textV a b c d e = textV a' b' c' d' e') == ((a == a') && ((b == b') && ((c == c') && ((d == d') && ((e == e') && true)))))) = true :=
  iff5 (text_inj h1 h2 he he') (fun ⟨p, q, r, s, t⟩ => by rw [p, q, r, s, t])
theorem bstr_enc (op rd ra rb im : Int) : (bstr (enc8 op rd ra rb im)).data.toList = [op, rd, ra, rb, im, Int.fdiv im 256, Int.fdiv im 65536, Int.fdiv im 16777216].map fun x => UInt8.ofNat (IntKind.u8.wrap x).toNat := rfl
theorem byte_inj {x y : Int} (h : UInt8.ofNat (IntKind.u8.wrap x).toNat = UInt8.ofNat (IntKind.u8.wrap y).toNat) : x % 256 = y % 256 := by
  have := congrArg UInt8.toNat h
  rw [UInt8.toNat_ofNat', UInt8.toNat_ofNat', IntKind.wrap_u8, IntKind.wrap_u8] at this
  omega
theorem enc_inj {a b c d e a' b' c' d' e' : Int} (h1 : rightV a b c d e = true) (h2 : rightV a' b' c' d' e' = true) (he : u32B e = true) (he' : u32B e' = true) (h : bstr (enc8 a b c d e) = bstr (enc8 a' b' c' d' e')) : a = a' ∧ b = b' ∧ c = c' ∧ d = d' ∧ e = e' := by
  have hb := congrArg (fun b : ByteArray => b.data.toList) h
  simp only [bstr_enc, List.map_cons, List.map_nil, List.cons.injEq, and_true] at hb
  obtain ⟨k0, k1, k2, k3, k4, k5, k6, k7⟩ := hb
  have k0 := byte_inj k0; have k1 := byte_inj k1; have k2 := byte_inj k2; have k3 := byte_inj k3
  have k4 := byte_inj k4; have k5 := byte_inj k5; have k6 := byte_inj k6; have k7 := byte_inj k7
  rw [Int.fdiv_eq_ediv_of_nonneg _ (by omega), Int.fdiv_eq_ediv_of_nonneg _ (by omega)] at k5 k6 k7
  obtain ⟨q0, q1, q2, q3⟩ := right_regs h1
  obtain ⟨r0, r1, r2, r3⟩ := right_regs h2
  simp only [u32B, inT, regV, Bool.and_eq_true, decide_eq_true_eq] at he he' q0 q1 q2 q3 r0 r1 r2 r3
  omega
theorem enc_eq {a b c d e a' b' c' d' e' : Int} (h1 : rightV a b c d e = true) (h2 : rightV a' b' c' d' e' = true) (he : u32B e = true) (he' : u32B e' = true) : (decide (bstr (enc8 a b c d e) = bstr (enc8 a' b' c' d' e')) == ((a == a') && ((b == b') && ((c == c') && ((d == d') && ((e == e') && true)))))) = true :=
  iff5 (enc_inj h1 h2 he he') (fun ⟨p, q, r, s, t⟩ => by rw [p, q, r, s, t])
end Hc
end Go.Proofs.YtndjckfnggnddaaDoor
