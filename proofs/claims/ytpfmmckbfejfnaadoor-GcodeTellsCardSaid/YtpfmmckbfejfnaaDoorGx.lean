/- Chapter 2: bytes copied to a roomy slice, and held against others. -/
import Derived.Test.YtpfmmckbfejfnaaDoorGw
namespace Go.Proofs.YtpfmmckbfejfnaaDoor
open Go Go.Ev Go.RowKit
set_option linter.unusedVariables false
set_option linter.unusedSimpArgs false
set_option maxRecDepth 100000
namespace Gc
theorem amake_bytes {T : Tab} {t e : TypeId} {H : Heap} (n : Nat) (hu : T.under t = some (.slice e)) (hb : T.bytes e = some 1) (hs : T.size e = some 1) (hz : T.zero e = some (.int .u8 0)) (hn : n ≤ 140737488355328) :
    amakeSlice T t (.int .i64 (Int.ofNat n)) (.int .i64 (Int.ofNat n)) H = some (.slice (some ⟨H.n, 0, none⟩) n n, H.push ⟨List.replicate n (.int .u8 0), e, false⟩) := by
  have e1 : n.ble n = true := by rw [ble_dec]; simp
  have e2 : (1 * n).ble 140737488355328 = true := by rw [ble_dec]; simp; omega
  have e3 : n.ble 4611686018427387904 = true := by rw [ble_dec]; simp; omega
  have e4 : closed (.int .u8 0) = true := rfl
  unfold amakeSlice
  simp only [hu, nats, hb, hs, hz, e1, e2, e3, e4, Bool.and_self, cond_true]
  rfl
def fillC (l : List Int) (k : Nat) : List Value := l.map (Value.int .u8) ++ List.replicate k (.int .u8 165) ++ List.replicate (80 - k) (.int .u8 0)
theorem fillC_len (l : List Int) (k : Nat) (hk : k ≤ 80) : (fillC l k).length = l.length + 80 := by simp [fillC]; omega
theorem fill_set {l : List Int} {k : Nat} (hk : k < 80) : (fillC l k).set (0 + (l.length + k) * 1) (Value.int .u8 165) = fillC l (k + 1) := by
  unfold fillC
  have e : 80 - k = (80 - (k + 1)) + 1 := by omega
  rw [e, List.replicate_succ, show 0 + (l.length + k) * 1 = (l.map (Value.int .u8) ++ List.replicate k (Value.int .u8 165)).length + 0 by simp, List.set_append_right _ _ (by omega)]
  rw [Nat.add_sub_cancel_left, List.set_cons_zero, List.replicate_succ' (n := k), ← List.append_assoc, List.append_assoc, List.append_assoc]
  simp
theorem fill_get {l : List Int} {k : Nat} (hk : k < 80) : (fillC l 80)[0 + (l.length + k) * 1]? = some (.int .u8 165) := by
  unfold fillC
  rw [List.append_assoc, show 0 + (l.length + k) * 1 = l.length + k by omega, List.getElem?_append_right (by simp), List.length_map, Nat.add_sub_cancel_left, List.getElem?_append_left (by rw [List.length_replicate]; exact hk), List.getElem?_replicate, if_pos hk]
theorem byts_full {H : Heap} {B cap k : Nat} {l : List Int} {ro : Bool} (gB : H.get B = some ⟨fillC l k, 5, ro⟩) (hB : B < H.n) (hb : ∀ x ∈ l, 0 ≤ x ∧ x < 256) : Byts H (.slice (some ⟨B, 0, none⟩) l.length cap) l :=
  byts_of gB hB fun j hj => ⟨by
    unfold fillC
    rw [List.append_assoc, show 0 + j * 1 = j by omega, List.getElem?_append_left (by simpa using hj), List.getElem?_map, List.getElem?_eq_getElem hj]; rfl, hb _ (List.getElem_mem hj)⟩
/-- Where an empty slice points to. -/
structure Emp (H : Heap) (pt : Option Addr) : Prop where
  at_ : pt = none ∨ ∃ A off, pt = some ⟨A, off, none⟩ ∧ (H.get A).isSome = true ∧ A < H.n
theorem acopy_empty {T : Tab} {t e : TypeId} {H : Heap} {B n c cap : Nat} {pt : Option Addr} {l : List Int} (hl : l.length = 0) (hu : T.under t = some (.slice e)) (hs : T.size e = some 1) (h : Emp H pt) : acopy T t (.slice (some ⟨B, 0, none⟩) n c) (.slice pt l.length cap) H = some (.int .i64 (Int.ofNat l.length), H) := by
  rw [hl]
  have e0 : Nat.min 0 n = 0 := Nat.min_eq_left (Nat.zero_le n)
  unfold acopy
  simp only [hu, hs, atrim, e0]
  rcases h.at_ with rfl | ⟨A, off, rfl, hg, _⟩
  · rfl
  · obtain ⟨o, ho⟩ := Option.isSome_iff_exists.1 hg
    have : asrc 1 (.slice (some ⟨A, off, none⟩) 0 cap) H = some (0, []) := by unfold asrc; simp only [ho, Nat.zero_mul, List.take_zero]; rfl
    rw [this]; rfl
theorem splice_zero {l zs : List Value} (h : 0 < l.length) (h2 : l.length ≤ zs.length) : splice zs 0 l = l ++ zs.drop l.length := by
  unfold splice
  split
  · rename_i v
    cases zs with
    | nil => simp at h2
    | cons z zs => rfl
  · simp
theorem acopy_own {T : Tab} {t e : TypeId} {H : Heap} {B c A off cap : Nat} {cells : List Value} {e2 : TypeId} {ro : Bool} {l : List Int} (hl : 0 < l.length) (hu : T.under t = some (.slice e)) (hs : T.size e = some 1) (gA : H.get A = some ⟨cells, e2, ro⟩) (hb : ∀ k (h : k < l.length), cells[off + k * 1]? = some (.int .u8 l[k]) ∧ 0 ≤ l[k] ∧ l[k] < 256)
    (gB : H.get B = some ⟨List.replicate (l.length + 80) (.int .u8 0), e, false⟩) :
    acopy T t (.slice (some ⟨B, 0, none⟩) (l.length + 80) c) (.slice (some ⟨A, off, none⟩) l.length cap) H = some (.int .i64 (Int.ofNat l.length), H.put B ⟨fillC l 0, e, false⟩) := by
  have e0 : Nat.min l.length (l.length + 80) = l.length := Nat.min_eq_left (by omega)
  have hc : (cells.drop off).take (l.length * 1) = l.map (Value.int .u8) := by
    refine List.ext_getElem? fun j => ?_
    rw [Nat.mul_one]
    rcases Nat.lt_or_ge j l.length with hj | hj
    · rw [List.getElem?_take, if_pos hj, List.getElem?_drop, List.getElem?_map, List.getElem?_eq_getElem hj]
      have := (hb j hj).1
      rw [Nat.mul_one] at this
      rw [this]; rfl
    · rw [List.getElem?_eq_none (by simp; omega), List.getElem?_eq_none (by simpa using hj)]
  have hsrc := asrc_blk (size := 1) (cap := cap) (n := l.length) gA hc (by simp)
  obtain ⟨x, r, hx⟩ : ∃ x r, l.map (Value.int .u8) = x :: r := by
    cases l with
    | nil => simp at hl
    | cons a l => exact ⟨_, _, rfl⟩
  have hput : aput B 0 (l.map (Value.int .u8)) H = some (H.put B ⟨fillC l 0, e, false⟩) := by
    unfold aput
    have h1 : (l.map (Value.int .u8)).all one = true := by simp [one]
    have h2 : (0 + (l.map (Value.int .u8)).length).ble (List.replicate (l.length + 80) (Value.int .u8 0)).length = true := by rw [ble_dec]; simp
    simp only [gB, h1, h2, Bool.not_false, Bool.and_self, cond_true]
    rw [splice_zero (by simpa using hl) (by simp)]
    simp [fillC]
  rw [hx] at hsrc hput
  have hsrc2 : asrc (0 + 1) (.slice (some ⟨A, off, none⟩) l.length cap) H = some (l.length, x :: r) := hsrc
  unfold acopy
  simp only [hu, hs, atrim, e0, hsrc, hsrc2, hput]
  rfl
theorem aslice_hi {T : Tab} {t e : TypeId} {A off len cap : Nat} (h : Nat) (hu : T.under t = some (.slice e)) (hs : T.size e = some 1) (hcap : cap < unk) (hh : h ≤ cap) (h0 : 0 < cap) :
    aslice T t (.slice (some ⟨A, off, none⟩) len cap) none (some (.int .i64 (Int.ofNat h))) none = some (.slice (some ⟨A, off, none⟩) h cap) := by
  have e1 : unk.ble cap = false := by rw [ble_dec]; simp; omega
  have e2 : h.ble cap = true := by rw [ble_dec]; simp; omega
  have e3 : cap.beq 0 = false := by rw [beq_dec]; simp; omega
  have e4 : (0 : Nat).ble h = true := by rw [ble_dec]; simp
  unfold aslice
  simp only [hu, hs, e1, e2, e3, e4, cond_true, cond_false, Nat.sub_zero, Option.map_some, Nat.zero_mul]
  congr 3
theorem ha_sl {P : Program} {T : Tab} {tm : Tr Value} {o : Oper} {H0 H H' : Heap} {t : TypeId} {x : Operand} {lo hi mx : Option Operand} {u v : Value} {l h m : Option Value} (ho : o.op = .slice t x lo hi mx) (hx : aeval tm x = some u) (h1 : aevalo tm lo = some l) (h2 : aevalo tm hi = some h) (h3 : aevalo tm mx = some m) (hH : H0 = H) (h4 : aslice T t u l h m = some v) (hH' : H = H') : aop P T tm o H0 = some (.val v, H') := by
  subst hH hH'
  unfold aop
  simp only [ho, hx, h1, h2, h3, h4, orVal, val]
noncomputable def f12b : Code := Tryd.f12.body.getD .skip
noncomputable def f12ba : Code := cl f12b
noncomputable def f12bao : Array Oper := opsOf f12ba
noncomputable def f12bc : Code := cr f12b
noncomputable def f12bca : Code := cl f12bc
noncomputable def f12bcao : Array Oper := opsOf f12bca
noncomputable def f12bcc : Code := cr f12bc
noncomputable def f12bcca : Code := cl f12bcc
noncomputable def f12bccao : Array Oper := opsOf f12bcca
noncomputable def f12bccc : Code := cr f12bcc
noncomputable def f12bccca : Code := cl f12bccc
noncomputable def f12bcccaa : Code := cl f12bccca
noncomputable def f12bcccaao : Array Oper := opsOf f12bcccaa
noncomputable def f12bcccac : Code := cr f12bccca
noncomputable def f12bcccaca : Code := cl f12bcccac
noncomputable def f12bcccacaa : Code := cl f12bcccaca
noncomputable def f12bcccacaaa : Code := cl f12bcccacaa
noncomputable def f12bcccacaaaa : Code := cl f12bcccacaaa
noncomputable def f12bcccacaaaao : Array Oper := opsOf f12bcccacaaaa
noncomputable def f12bcccacaaac : Code := cr f12bcccacaaa
noncomputable def f12bcccacaac : Code := cr f12bcccacaa
noncomputable def f12bcccacaaca : Code := cl f12bcccacaac
noncomputable def f12bcccacaacaa : Code := cl f12bcccacaaca
noncomputable def f12bcccacaacaao : Array Oper := opsOf f12bcccacaacaa
noncomputable def f12bcccacaacc : Code := cr f12bcccacaac
noncomputable def f12bcccacaacco : Array Oper := opsOf f12bcccacaacc
noncomputable def f12bcccc : Code := cr f12bccc
noncomputable def f12bcccca : Code := cl f12bcccc
noncomputable def f12bccccao : Array Oper := opsOf f12bcccca
theorem f12ba_eq : f12ba = .region 0 f12bao false := by kernel_rfl
theorem f12bca_eq : f12bca = .region 1 f12bcao false := by kernel_rfl
theorem f12bcca_eq : f12bcca = .region 2 f12bccao false := by kernel_rfl
theorem f12bcccaa_eq : f12bcccaa = .region 3 f12bcccaao false := by kernel_rfl
theorem f12bcccacaaaa_eq : f12bcccacaaaa = .region 4 f12bcccacaaaao false := by kernel_rfl
theorem f12bcccacaaac_eq : f12bcccacaaac = .cond (cop f12bcccacaaac) .skip (.exit 0) := by kernel_rfl
theorem f12bcccacaaa_eq : f12bcccacaaa = .seq f12bcccacaaaa f12bcccacaaac := by kernel_rfl
theorem f12bcccacaacaa_eq : f12bcccacaacaa = .region 6 f12bcccacaacaao false := by kernel_rfl
theorem f12bcccacaaca_eq : f12bcccacaaca = .block 1 f12bcccacaacaa := by kernel_rfl
theorem f12bcccacaacc_eq : f12bcccacaacc = .region 5 f12bcccacaacco false := by kernel_rfl
theorem f12bcccacaac_eq : f12bcccacaac = .seq f12bcccacaaca f12bcccacaacc := by kernel_rfl
theorem f12bcccacaa_eq : f12bcccacaa = .seq f12bcccacaaa f12bcccacaac := by kernel_rfl
theorem f12bcccaca_eq : f12bcccaca = .loop f12bcccacaa := by kernel_rfl
theorem f12bcccac_eq : f12bcccac = .block 0 f12bcccaca := by kernel_rfl
theorem f12bccca_eq : f12bccca = .seq f12bcccaa f12bcccac := by kernel_rfl
theorem f12bcccca_eq : f12bcccca = .region 7 f12bccccao false := by kernel_rfl
theorem f12bcccc_eq : f12bcccc = .seq f12bcccca .ret := by kernel_rfl
theorem f12bccc_eq : f12bccc = .seq f12bccca f12bcccc := by kernel_rfl
theorem f12bcc_eq : f12bcc = .seq f12bcca f12bccc := by kernel_rfl
theorem f12bc_eq : f12bc = .seq f12bca f12bcc := by kernel_rfl
theorem f12b_eq : f12b = .seq f12ba f12bc := by kernel_rfl
theorem f12_body : Tryd.f12.body = some f12b := by kernel_rfl
theorem f12_fn : T20.fn 12 = some Tryd.f12 := by kernel_rfl
theorem roomy_nil {H : Heap} {cap : Nat} {l : List Int} (hll : l.length ≤ 140737488351232) {pt : Option Addr} (hl : l.length = 0) (hE : Emp H pt) : ACall Tryd.prog T20 12 #[(.slice pt l.length cap), .int .u8 165] H fun r H' => r = .slice (some ⟨H.n, 0, none⟩) (l.length + 80) (l.length + 80) ∧ H'.get H.n = some ⟨fillC l 80, 5, false⟩ ∧ H.n < H'.n ∧ Up H.n H H' := by
  refine acall_of' 27 (initTm 0 #[(.slice pt l.length cap), .int .u8 165]) rfl f12_fn f12_body rfl rfl ?_
  refine aw_code f12b_eq ?_
  refine aw_then ?_
  refine aw_code f12ba_eq ?_
  refine aw_reg ?_
  refine aops_go 1 60 (by kernel_rfl) ?_
  refine aops_end (by kernel_rfl) (then_normal ?_)
  refine aw_code f12bc_eq ?_
  refine aw_then ?_
  refine aw_code f12bca_eq ?_
  refine aw_reg ?_
  refine aops_go 3 60 (by kernel_rfl) ?_
  refine aops_see 9 (.int .i64 ((l.length + 80 : Nat) : Int)) (see_int (x := (IntKind.i64.wrap (((l.length : Nat) : Int) + 80))) (by kernel_rfl) (w64 (by omega) (by omega) (by omega))) ?_
  obtain ⟨H1_, hH1_⟩ : ∃ x : Heap, x = H.push ⟨List.replicate (l.length + 80) (.int .u8 0), 5, false⟩ := ⟨_, rfl⟩
  have nH1_ : H1_.n = H.n + 1 := by rw [hH1_]; rfl
  refine aops_val 10 (.slice (some ⟨H.n, 0, none⟩) (l.length + 80) (l.length + 80)) H1_ (by kernel_rfl) (by kernel_rfl) (by kernel_rfl) ((by kernel_rfl : _ = val2 (amakeSlice T20 27 (.int .i64 (Int.ofNat (l.length + 80))) (.int .i64 (Int.ofNat (l.length + 80))) H)).trans (by rw [amake_bytes (l.length + 80) (by kernel_rfl) (by kernel_rfl) (by kernel_rfl) (by kernel_rfl) (by omega), ← hH1_]; rfl)) ?_
  refine aops_go 1 60 (by kernel_rfl) ?_
  refine aops_end (by kernel_rfl) (then_normal ?_)
  refine aw_code f12bcc_eq ?_
  refine aw_then ?_
  refine aw_code f12bcca_eq ?_
  refine aw_reg ?_
  refine aops_go 2 60 (by kernel_rfl) ?_
  have hE2 : Emp H1_ pt := by
    rcases hE.at_ with h | ⟨A, off, h1, h2, h3⟩
    · exact ⟨.inl h⟩
    · exact ⟨.inr ⟨A, off, h1, by rw [hH1_, Heap.get_push, if_neg (by omega)]; exact h2, by omega⟩⟩
  refine aops_val 13 (.int .i64 (Int.ofNat l.length)) H1_ (by kernel_rfl) (by kernel_rfl) (by kernel_rfl) ((by kernel_rfl : _ = val2 (acopy T20 27 (.slice (some ⟨H.n, 0, none⟩) (l.length + 80) (l.length + 80)) ((.slice pt l.length cap)) H1_)).trans (by rw [acopy_empty (e := 5) hl (by kernel_rfl) (by kernel_rfl) hE2]; rfl)) ?_
  refine aops_end (by kernel_rfl) (then_normal ?_)
  refine aw_code f12bccc_eq ?_
  refine aw_then ?_
  refine aw_code f12bccca_eq ?_
  refine aw_then ?_
  refine aw_code f12bcccaa_eq ?_
  refine aw_reg ?_
  refine aops_go 3 60 (by kernel_rfl) ?_
  refine aops_end (by kernel_rfl) (then_normal ?_)
  refine aw_code f12bcccac_eq ?_
  refine aw_block ?_
  refine aw_code f12bcccaca_eq ?_
  have gH1_H_n : H1_.get (H.n) = some ⟨(List.replicate (l.length + 80) (.int .u8 0)), 5, false⟩ := by rw [hH1_]; exact (Heap.get_push _ _ _).trans (if_pos rfl)
  rw [show List.replicate (l.length + 80) (Value.int .u8 0) = fillC l 0 by simp [fillC, List.length_eq_zero_iff.1 hl]] at gH1_H_n
  refine aw_loop (fun m st => ∃ (k : Nat) (H1 : Heap), m = 80 - k ∧ k ≤ 80 ∧ Kn st.tm [(1, .int .u8 165), (5, .slice (some ⟨H.n, 0, none⟩) (l.length + 80) (l.length + 80)), (6, .int .i64 ((l.length + k : Nat) : Int))] ∧ st.H = H1 ∧ H1.n = H.n + 1 ∧ H1.get H.n = some ⟨fillC l k, 5, false⟩ ∧ (∀ b, b < H.n → H1.get b = H.get b)) 80 ⟨0, H1_, rfl, by omega, ⟨by kernel_rfl, by kernel_rfl, by kernel_rfl, True.intro⟩, by kernel_rfl, by omega, gH1_H_n, fun b hb => by rw [hH1_, Heap.get_push, if_neg (by omega)]⟩ ?_
  rintro m st ⟨k, H1, hm, hl1, hkn, hH, nH1, gB, hfr⟩
  refine aw_kn' [(1, .int .u8 165), (5, .slice (some ⟨H.n, 0, none⟩) (l.length + 80) (l.length + 80)), (6, .int .i64 ((l.length + k : Nat) : Int))] hkn hH fun tm => ?_
  by_cases hk : k < 80
  · skip
    refine aw_code f12bcccacaa_eq ?_
    refine aw_then ?_
    refine aw_code f12bcccacaaa_eq ?_
    refine aw_then ?_
    refine aw_code f12bcccacaaaa_eq ?_
    refine aw_reg ?_
    refine aops_go 4 60 (by kernel_rfl) ?_
    refine aops_end (by kernel_rfl) (then_normal ?_)
    refine aw_code f12bcccacaaac_eq ?_
    refine aw_cond (t := true) (see_bool (by kernel_rfl) ((by simp; omega) : ((decide (((l.length + k : Nat) : Int) < (((l.length + 80) : Nat) : Int)))) = true)) ?_
    refine aw_skip (then_normal ?_)
    refine aw_code f12bcccacaac_eq ?_
    refine aw_then ?_
    refine aw_code f12bcccacaaca_eq ?_
    refine aw_block ?_
    refine aw_code f12bcccacaacaa_eq ?_
    refine aw_reg ?_
    refine aops_go 3 60 (by kernel_rfl) ?_
    refine aops_val 25 (.pointer (some ⟨H.n, 0 + (l.length + k) * 1, none⟩)) H1 (by kernel_rfl) (by kernel_rfl) (by kernel_rfl) ((by kernel_rfl : _ = val (bif (l.length + k : Nat).blt (l.length + 80) then some (.pointer (some ⟨H.n, 0 + (l.length + k) * 1, none⟩)) else none) H1).trans (by rw [show (l.length + k : Nat).blt (l.length + 80) = true from (by rw [blt_dec]; simp only [decide_eq_true_eq]; omega)]; rfl)) ?_
    obtain ⟨H2_, hH2_⟩ : ∃ x : Heap, x = H1.put (H.n) ⟨(fillC l (k + 1)), 5, false⟩ := ⟨_, rfl⟩
    have nH2_ : H2_.n = H1.n := by rw [hH2_]; rfl
    refine aops_skip H2_ (by kernel_rfl) (by kernel_rfl) (by kernel_rfl) ((by kernel_rfl : _ = skp (astore T20 5 (.pointer (some ⟨H.n, 0 + (l.length + k) * 1, none⟩)) (.int .u8 165) H1)).trans (by rw [astore_to gB ((astoreC_one (by kernel_rfl) rfl rfl (by rw [fillC_len _ _ (by omega)]; omega)).trans (congrArg some (fill_set hk))), ← hH2_]; rfl)) ?_
    refine aops_end (by kernel_rfl) (blk_normal (then_normal ?_))
    refine aw_code f12bcccacaacc_eq ?_
    refine aw_reg ?_
    refine aops_go 2 60 (by kernel_rfl) ?_
    refine aops_see 21 (.int .i64 ((l.length + k + 1 : Nat) : Int)) (see_int (x := (IntKind.i64.wrap (((l.length + k : Nat) : Int) + 1))) (by kernel_rfl) (w64 (by omega) (by omega) (by omega))) ?_
    refine aops_go 1 60 (by kernel_rfl) ?_
    have gH2_H_n : H2_.get (H.n) = some ⟨(fillC l (k + 1)), 5, false⟩ := by rw [hH2_]; exact (Heap.get_put _ _ _ _).trans (if_pos rfl)
    refine aops_end (by kernel_rfl) (then_normal ⟨80 - (k + 1), by omega, k + 1, H2_, rfl, by omega, ⟨by kernel_rfl, by kernel_rfl, by kernel_rfl, True.intro⟩, by kernel_rfl, by omega, gH2_H_n, fun b hb => by rw [hH2_, Heap.get_put, if_neg (by omega)]; exact hfr b hb⟩)
  · skip
    obtain rfl : k = 80 := by omega
    refine aw_code f12bcccacaa_eq ?_
    refine aw_then ?_
    refine aw_code f12bcccacaaa_eq ?_
    refine aw_then ?_
    refine aw_code f12bcccacaaaa_eq ?_
    refine aw_reg ?_
    refine aops_go 4 60 (by kernel_rfl) ?_
    refine aops_end (by kernel_rfl) (then_normal ?_)
    refine aw_code f12bcccacaaac_eq ?_
    refine aw_cond (t := false) (see_bool (by kernel_rfl) ((by simp) : ((decide (((l.length + 80 : Nat) : Int) < (((l.length + 80) : Nat) : Int)))) = false)) ?_
    refine aw_exit (then_exit (then_exit (blk_hit (then_normal ?_))))
    refine aw_code f12bcccc_eq ?_
    refine aw_then ?_
    refine aw_code f12bcccca_eq ?_
    refine aw_reg ?_
    refine aops_go 2 60 (by kernel_rfl) ?_
    refine aops_end (by kernel_rfl) (then_normal ?_)
    refine aw_ret (bodyQ_ret_to (.slice (some ⟨H.n, 0, none⟩) (l.length + 80) (l.length + 80)) H1 (by kernel_rfl) (by kernel_rfl) ?_)
    exact ⟨rfl, gB, by omega, by omega, hfr⟩
theorem roomy_own {H : Heap} {cap : Nat} {l : List Int} (hll : l.length ≤ 140737488351232) {A off : Nat} {cells : List Value} {e : TypeId} {ro : Bool} (hl : 0 < l.length) (gA : H.get A = some ⟨cells, e, ro⟩) (hA : A < H.n) (hb : ∀ k (h : k < l.length), cells[off + k * 1]? = some (.int .u8 l[k]) ∧ 0 ≤ l[k] ∧ l[k] < 256) : ACall Tryd.prog T20 12 #[.slice (some ⟨A, off, none⟩) l.length cap, .int .u8 165] H fun r H' => r = .slice (some ⟨H.n, 0, none⟩) (l.length + 80) (l.length + 80) ∧ H'.get H.n = some ⟨fillC l 80, 5, false⟩ ∧ H.n < H'.n ∧ Up H.n H H' := by
  refine acall_of' 27 (initTm 0 #[.slice (some ⟨A, off, none⟩) l.length cap, .int .u8 165]) rfl f12_fn f12_body rfl rfl ?_
  refine aw_code f12b_eq ?_
  refine aw_then ?_
  refine aw_code f12ba_eq ?_
  refine aw_reg ?_
  refine aops_go 1 60 (by kernel_rfl) ?_
  refine aops_end (by kernel_rfl) (then_normal ?_)
  refine aw_code f12bc_eq ?_
  refine aw_then ?_
  refine aw_code f12bca_eq ?_
  refine aw_reg ?_
  refine aops_go 3 60 (by kernel_rfl) ?_
  refine aops_see 9 (.int .i64 ((l.length + 80 : Nat) : Int)) (see_int (x := (IntKind.i64.wrap (((l.length : Nat) : Int) + 80))) (by kernel_rfl) (w64 (by omega) (by omega) (by omega))) ?_
  obtain ⟨H1_, hH1_⟩ : ∃ x : Heap, x = H.push ⟨List.replicate (l.length + 80) (.int .u8 0), 5, false⟩ := ⟨_, rfl⟩
  have nH1_ : H1_.n = H.n + 1 := by rw [hH1_]; rfl
  refine aops_val 10 (.slice (some ⟨H.n, 0, none⟩) (l.length + 80) (l.length + 80)) H1_ (by kernel_rfl) (by kernel_rfl) (by kernel_rfl) ((by kernel_rfl : _ = val2 (amakeSlice T20 27 (.int .i64 (Int.ofNat (l.length + 80))) (.int .i64 (Int.ofNat (l.length + 80))) H)).trans (by rw [amake_bytes (l.length + 80) (by kernel_rfl) (by kernel_rfl) (by kernel_rfl) (by kernel_rfl) (by omega), ← hH1_]; rfl)) ?_
  refine aops_go 1 60 (by kernel_rfl) ?_
  refine aops_end (by kernel_rfl) (then_normal ?_)
  refine aw_code f12bcc_eq ?_
  refine aw_then ?_
  refine aw_code f12bcca_eq ?_
  refine aw_reg ?_
  refine aops_go 2 60 (by kernel_rfl) ?_
  have gH1_A : H1_.get (A) = some ⟨cells, e, ro⟩ := by rw [hH1_, Heap.get_push, if_neg (by omega)]; exact gA
  have gH1_H_n : H1_.get (H.n) = some ⟨(List.replicate (l.length + 80) (.int .u8 0)), 5, false⟩ := by rw [hH1_]; exact (Heap.get_push _ _ _).trans (if_pos rfl)
  obtain ⟨H2_, hH2_⟩ : ∃ x : Heap, x = H1_.put (H.n) ⟨fillC l 0, 5, false⟩ := ⟨_, rfl⟩
  have nH2_ : H2_.n = H1_.n := by rw [hH2_]; rfl
  refine aops_val 13 (.int .i64 (Int.ofNat l.length)) H2_ (by kernel_rfl) (by kernel_rfl) (by kernel_rfl) ((by kernel_rfl : _ = val2 (acopy T20 27 (.slice (some ⟨H.n, 0, none⟩) (l.length + 80) (l.length + 80)) (.slice (some ⟨A, off, none⟩) l.length cap) H1_)).trans (by rw [acopy_own hl (by kernel_rfl) (by kernel_rfl) gH1_A hb gH1_H_n, ← hH2_]; rfl)) ?_
  refine aops_end (by kernel_rfl) (then_normal ?_)
  refine aw_code f12bccc_eq ?_
  refine aw_then ?_
  refine aw_code f12bccca_eq ?_
  refine aw_then ?_
  refine aw_code f12bcccaa_eq ?_
  refine aw_reg ?_
  refine aops_go 3 60 (by kernel_rfl) ?_
  refine aops_end (by kernel_rfl) (then_normal ?_)
  refine aw_code f12bcccac_eq ?_
  refine aw_block ?_
  refine aw_code f12bcccaca_eq ?_
  have gH2_H_n : H2_.get (H.n) = some ⟨(fillC l 0), 5, false⟩ := by rw [hH2_]; exact (Heap.get_put _ _ _ _).trans (if_pos rfl)
  refine aw_loop (fun m st => ∃ (k : Nat) (H1 : Heap), m = 80 - k ∧ k ≤ 80 ∧ Kn st.tm [(1, .int .u8 165), (5, .slice (some ⟨H.n, 0, none⟩) (l.length + 80) (l.length + 80)), (6, .int .i64 ((l.length + k : Nat) : Int))] ∧ st.H = H1 ∧ H1.n = H.n + 1 ∧ H1.get H.n = some ⟨fillC l k, 5, false⟩ ∧ (∀ b, b < H.n → H1.get b = H.get b)) 80 ⟨0, H2_, rfl, by omega, ⟨by kernel_rfl, by kernel_rfl, by kernel_rfl, True.intro⟩, by kernel_rfl, by omega, gH2_H_n, fun b hb => by rw [hH2_, Heap.get_put, if_neg (by omega), hH1_, Heap.get_push, if_neg (by omega)]⟩ ?_
  rintro m st ⟨k, H1, hm, hl1, hkn, hH, nH1, gB, hfr⟩
  refine aw_kn' [(1, .int .u8 165), (5, .slice (some ⟨H.n, 0, none⟩) (l.length + 80) (l.length + 80)), (6, .int .i64 ((l.length + k : Nat) : Int))] hkn hH fun tm => ?_
  by_cases hk : k < 80
  · skip
    refine aw_code f12bcccacaa_eq ?_
    refine aw_then ?_
    refine aw_code f12bcccacaaa_eq ?_
    refine aw_then ?_
    refine aw_code f12bcccacaaaa_eq ?_
    refine aw_reg ?_
    refine aops_go 4 60 (by kernel_rfl) ?_
    refine aops_end (by kernel_rfl) (then_normal ?_)
    refine aw_code f12bcccacaaac_eq ?_
    refine aw_cond (t := true) (see_bool (by kernel_rfl) ((by simp; omega) : ((decide (((l.length + k : Nat) : Int) < (((l.length + 80) : Nat) : Int)))) = true)) ?_
    refine aw_skip (then_normal ?_)
    refine aw_code f12bcccacaac_eq ?_
    refine aw_then ?_
    refine aw_code f12bcccacaaca_eq ?_
    refine aw_block ?_
    refine aw_code f12bcccacaacaa_eq ?_
    refine aw_reg ?_
    refine aops_go 3 60 (by kernel_rfl) ?_
    refine aops_val 25 (.pointer (some ⟨H.n, 0 + (l.length + k) * 1, none⟩)) H1 (by kernel_rfl) (by kernel_rfl) (by kernel_rfl) ((by kernel_rfl : _ = val (bif (l.length + k : Nat).blt (l.length + 80) then some (.pointer (some ⟨H.n, 0 + (l.length + k) * 1, none⟩)) else none) H1).trans (by rw [show (l.length + k : Nat).blt (l.length + 80) = true from (by rw [blt_dec]; simp only [decide_eq_true_eq]; omega)]; rfl)) ?_
    obtain ⟨H3_, hH3_⟩ : ∃ x : Heap, x = H1.put (H.n) ⟨(fillC l (k + 1)), 5, false⟩ := ⟨_, rfl⟩
    have nH3_ : H3_.n = H1.n := by rw [hH3_]; rfl
    refine aops_skip H3_ (by kernel_rfl) (by kernel_rfl) (by kernel_rfl) ((by kernel_rfl : _ = skp (astore T20 5 (.pointer (some ⟨H.n, 0 + (l.length + k) * 1, none⟩)) (.int .u8 165) H1)).trans (by rw [astore_to gB ((astoreC_one (by kernel_rfl) rfl rfl (by rw [fillC_len _ _ (by omega)]; omega)).trans (congrArg some (fill_set hk))), ← hH3_]; rfl)) ?_
    refine aops_end (by kernel_rfl) (blk_normal (then_normal ?_))
    refine aw_code f12bcccacaacc_eq ?_
    refine aw_reg ?_
    refine aops_go 2 60 (by kernel_rfl) ?_
    refine aops_see 21 (.int .i64 ((l.length + k + 1 : Nat) : Int)) (see_int (x := (IntKind.i64.wrap (((l.length + k : Nat) : Int) + 1))) (by kernel_rfl) (w64 (by omega) (by omega) (by omega))) ?_
    refine aops_go 1 60 (by kernel_rfl) ?_
    have gH3_H_n : H3_.get (H.n) = some ⟨(fillC l (k + 1)), 5, false⟩ := by rw [hH3_]; exact (Heap.get_put _ _ _ _).trans (if_pos rfl)
    refine aops_end (by kernel_rfl) (then_normal ⟨80 - (k + 1), by omega, k + 1, H3_, rfl, by omega, ⟨by kernel_rfl, by kernel_rfl, by kernel_rfl, True.intro⟩, by kernel_rfl, by omega, gH3_H_n, fun b hb => by rw [hH3_, Heap.get_put, if_neg (by omega)]; exact hfr b hb⟩)
  · skip
    obtain rfl : k = 80 := by omega
    refine aw_code f12bcccacaa_eq ?_
    refine aw_then ?_
    refine aw_code f12bcccacaaa_eq ?_
    refine aw_then ?_
    refine aw_code f12bcccacaaaa_eq ?_
    refine aw_reg ?_
    refine aops_go 4 60 (by kernel_rfl) ?_
    refine aops_end (by kernel_rfl) (then_normal ?_)
    refine aw_code f12bcccacaaac_eq ?_
    refine aw_cond (t := false) (see_bool (by kernel_rfl) ((by simp) : ((decide (((l.length + 80 : Nat) : Int) < (((l.length + 80) : Nat) : Int)))) = false)) ?_
    refine aw_exit (then_exit (then_exit (blk_hit (then_normal ?_))))
    refine aw_code f12bcccc_eq ?_
    refine aw_then ?_
    refine aw_code f12bcccca_eq ?_
    refine aw_reg ?_
    refine aops_go 2 60 (by kernel_rfl) ?_
    refine aops_end (by kernel_rfl) (then_normal ?_)
    refine aw_ret (bodyQ_ret_to (.slice (some ⟨H.n, 0, none⟩) (l.length + 80) (l.length + 80)) H1 (by kernel_rfl) (by kernel_rfl) ?_)
    exact ⟨rfl, gB, by omega, by omega, hfr⟩
end Gc
end Go.Proofs.YtpfmmckbfejfnaaDoor
