/- Chapter 3: Sized, Encode over the newest table, the runs, any instruction and any bytes. -/
import Derived.Test.YtndjckfnggnddaaDoorGu
import Derived.Test.YtndjckfnggnddaaDoorGk
namespace Go.Proofs.YtndjckfnggnddaaDoor
open Go Go.Ev Go.RowKit
set_option linter.unusedVariables false
set_option linter.unusedSimpArgs false
set_option maxRecDepth 100000
namespace Hc
theorem aopsU_cons {P : Program} {T : Tab} {lo n : Nat} {ops : Array Oper} {s : St} {K : St → Prop} {o : Oper} {l : List Oper} : AOpsU P T lo n ops (o :: l) K s = AStepU P T lo n ops o (AOpsU P T lo n ops l K) s := by with_unfolding_all rfl
theorem aopsU_skip {P : Program} {T : Tab} {lo n : Nat} {ops : Array Oper} {s : St} {K : St → Prop} {l : List Oper} (H0 H' : Heap) (he : l.isEmpty = false) (hw : awanted ops s.tm (hdO l) = true) (hd : (hdO l).dst = none) (ha : aop P T s.tm (hdO l) s.H = some (.skip, H')) (hH : s.H = H0) (hu : Up lo H0 H') (hk : AOpsU P T lo n ops l.tail K ⟨s.tm, H'⟩) : AOpsU P T lo n ops l K s := by
  rw [hdO_tail he, aopsU_cons]
  unfold AStepU
  rw [hw, ha]
  refine ⟨by rw [hH]; exact hu, ?_⟩
  rw [hd]
  exact aput_k rfl hk
def encL (op rd ra rb im : Int) : List Int := [op, rd, ra, rb, im, Int.fdiv im 256, Int.fdiv im 65536, Int.fdiv im 16777216].map fun x => IntKind.u8.wrap x
theorem encL_map (op rd ra rb im : Int) : enc8 op rd ra rb im = (encL op rd ra rb im).map (Value.int .u8) := rfl
theorem encL_in (op rd ra rb im : Int) : ∀ x ∈ encL op rd ra rb im, 0 ≤ x ∧ x < 256 := by
  intro x hx
  obtain ⟨y, _, rfl⟩ := List.mem_map.1 hx
  rw [IntKind.wrap_u8]; omega
theorem byts_map {H : Heap} {B cap k : Nat} {l : List Int} {e : TypeId} {ro : Bool} (gB : H.get B = some ⟨l.map (Value.int .u8), e, ro⟩) (hB : B < H.n) (hb : ∀ x ∈ l, 0 ≤ x ∧ x < 256) (hk : k ≤ l.length) : Byts H (.slice (some ⟨B, 0, none⟩) k cap) (l.take k) := by
  have hl : (l.take k).length = k := by simp; omega
  have : Byts H (.slice (some ⟨B, 0, none⟩) (l.take k).length cap) (l.take k) := ⟨.inr ⟨B, 0, cap, _, e, ro, rfl, gB, hB, fun j hj => ⟨by
    have hj' : j < l.length := by simp at hj; omega
    rw [show 0 + j * 1 = j by omega, List.getElem?_map, List.getElem?_eq_getElem hj', List.getElem_take]; rfl, hb _ (List.mem_of_mem_take (List.getElem_mem hj))⟩⟩⟩
  rwa [hl] at this
theorem byts_enc {H : Heap} {B cap k : Nat} {op rd ra rb im : Int} {ro : Bool} (gB : H.get B = some ⟨enc8 op rd ra rb im, 5, ro⟩) (hB : B < H.n) (hk : k ≤ 8) : Byts H (.slice (some ⟨B, 0, none⟩) k cap) ((encL op rd ra rb im).take k) :=
  byts_map gB hB (encL_in _ _ _ _ _) (by simpa [encL] using hk)
theorem amake_bytes {T : Tab} {t e : TypeId} {H : Heap} (n : Nat) (hu : T.under t = some (.slice e)) (hb : T.bytes e = some 1) (hs : T.size e = some 1) (hz : T.zero e = some (.int .u8 0)) (hn : n ≤ 140737488355328) :
    amakeSlice T t (.int .i64 (Int.ofNat n)) (.int .i64 (Int.ofNat n)) H = some (.slice (some ⟨H.n, 0, none⟩) n n, H.push ⟨List.replicate n (.int .u8 0), e, false⟩) := by
  have e1 : n.ble n = true := by rw [ble_dec]; simp
  have e2 : (1 * n).ble 140737488355328 = true := by rw [ble_dec]; simp; omega
  have e3 : n.ble 4611686018427387904 = true := by rw [ble_dec]; simp; omega
  have e4 : closed (.int .u8 0) = true := rfl
  unfold amakeSlice
  simp only [hu, nats, hb, hs, hz, e1, e2, e3, e4, Bool.and_self, cond_true]
  rfl
theorem zeros_byts {H : Heap} {B cap n : Nat} {e : TypeId} {ro : Bool} (gB : H.get B = some ⟨List.replicate n (.int .u8 0), e, ro⟩) (hB : B < H.n) : Byts H (.slice (some ⟨B, 0, none⟩) n cap) (List.replicate n 0) := by
  have := byts_map (l := List.replicate n 0) (k := n) (cap := cap) (by rw [List.map_replicate]; exact gB) hB (fun x hx => by rw [(List.mem_replicate.1 hx).2]; omega) (by simp)
  rwa [List.take_of_length_le (by simp)] at this
theorem splice_zero {l zs : List Value} (h : 0 < l.length) (h2 : l.length ≤ zs.length) : splice zs 0 l = l ++ zs.drop l.length := by
  unfold splice
  split
  · rename_i v
    cases zs with
    | nil => simp at h2
    | cons z zs => rfl
  · simp
/-- Bytes copied over noughts. -/
theorem acopy_byts {T : Tab} {t e : TypeId} {H : Heap} {B n c cap : Nat} {pt : Option Addr} {l : List Int} (hu : T.under t = some (.slice e)) (hs : T.size e = some 1) (h : Byts H (.slice pt l.length cap) l) (gB : H.get B = some ⟨List.replicate n (.int .u8 0), e, false⟩) (hB : B < H.n) :
    ∃ (l' : List Int) (H' : Heap), acopy T t (.slice (some ⟨B, 0, none⟩) n c) (.slice pt l.length cap) H = some (.int .i64 (Int.ofNat (Nat.min l.length n)), H') ∧ Byts H' (.slice (some ⟨B, 0, none⟩) n c) l' ∧ l'.length = n ∧ H'.n = H.n ∧ ∀ b, b ≠ B → H'.get b = H.get b := by
  have none' : ∀ k, asrc 1 (.slice pt (Nat.min l.length n) cap) H = some (k, []) → ∃ (l' : List Int) (H' : Heap), acopy T t (.slice (some ⟨B, 0, none⟩) n c) (.slice pt l.length cap) H = some (.int .i64 (Int.ofNat (Nat.min l.length n)), H') ∧ Byts H' (.slice (some ⟨B, 0, none⟩) n c) l' ∧ l'.length = n ∧ H'.n = H.n ∧ ∀ b, b ≠ B → H'.get b = H.get b := by
    intro k hk
    refine ⟨List.replicate n 0, H, ?_, zeros_byts gB hB, by simp, rfl, fun _ _ => rfl⟩
    unfold acopy
    simp only [hu, hs, atrim, hk]
    rfl
  rcases h.at_ with ⟨cap', e1, rfl⟩ | ⟨A, off, cap', cells, e2, ro, e1, gA, hA, hb⟩
  · injection e1 with e1 _ _
    subst e1
    refine none' 0 ?_
    show asrc 1 (.slice none (Nat.min 0 n) cap) H = _
    rw [show Nat.min 0 n = 0 from Nat.min_eq_left (Nat.zero_le n)]; rfl
  · injection e1 with e1 _ e3
    subst e1 e3
    obtain ⟨k, hk⟩ : ∃ k, k = Nat.min l.length n := ⟨_, rfl⟩
    have hkl : k ≤ l.length := by rw [hk]; exact Nat.min_le_left _ _
    have hkn : k ≤ n := by rw [hk]; exact Nat.min_le_right _ _
    have hc : (cells.drop off).take (k * 1) = (l.take k).map (Value.int .u8) := by
      refine List.ext_getElem? fun j => ?_
      rw [Nat.mul_one]
      rcases Nat.lt_or_ge j k with hj | hj
      · rw [List.getElem?_take, if_pos hj, List.getElem?_drop, List.getElem?_map, List.getElem?_take, if_pos hj, (show l[j]? = some (l[j]'(by omega)) from List.getElem?_eq_getElem _)]
        have := (hb j (by omega)).1
        rw [Nat.mul_one] at this
        rw [this]; rfl
      · rw [List.getElem?_eq_none (by simp; omega), List.getElem?_eq_none (by simp; omega)]
    have hsrc := asrc_blk (size := 1) (cap := cap) (n := k) gA hc (by simp; omega)
    rcases Nat.eq_zero_or_pos k with h0 | h0
    · rw [← hk] at none' ⊢
      exact none' k (by rw [hsrc, h0]; rfl)
    · obtain ⟨x, r, hx⟩ : ∃ x r, (l.take k).map (Value.int .u8) = x :: r := by
        cases hm : (l.take k).map (Value.int .u8) with
        | nil => have := congrArg List.length hm; rw [List.length_map, List.length_take, List.length_nil] at this; omega
        | cons a l => exact ⟨_, _, rfl⟩
      have hlen : ((l.take k).map (Value.int .u8)).length = k := by simp; omega
      have hput : aput B 0 ((l.take k).map (Value.int .u8)) H = some (H.put B ⟨(l.take k ++ List.replicate (n - k) 0).map (Value.int .u8), e, false⟩) := by
        unfold aput
        have h1 : ((l.take k).map (Value.int .u8)).all one = true := List.all_eq_true.2 fun x hx => by obtain ⟨y, _, rfl⟩ := List.mem_map.1 hx; rfl
        have h2 : (0 + ((l.take k).map (Value.int .u8)).length).ble (List.replicate n (Value.int .u8 0)).length = true := by rw [ble_dec, hlen]; simp; omega
        simp only [gB, h1, h2, Bool.not_false, Bool.and_self, cond_true]
        rw [splice_zero (by omega) (by rw [hlen]; simpa using hkn), hlen, List.map_append, List.map_replicate, List.drop_replicate]
      refine ⟨l.take k ++ List.replicate (n - k) 0, H.put B ⟨(l.take k ++ List.replicate (n - k) 0).map (Value.int .u8), e, false⟩, ?_, ?_, by simp; omega, Heap.n_put .., fun b hb => by rw [Heap.get_put, if_neg hb]⟩
      · rw [hx] at hsrc hput
        unfold acopy
        rw [← hk]
        have hsrc2 : asrc (0 + 1) (.slice (some ⟨A, off, none⟩) k cap) H = some (k, x :: r) := hsrc
        simp only [hu, hs, atrim, ← hk, hsrc2, hput]
        rfl
      · have hl' : (l.take k ++ List.replicate (n - k) 0).length = n := by simp; omega
        have := byts_map (k := n) (cap := c) (H := H.put B ⟨(l.take k ++ List.replicate (n - k) 0).map (Value.int .u8), e, false⟩) (B := B) (e := e) (ro := false) ((Heap.get_put _ _ _ _).trans (if_pos rfl)) (by rw [Heap.n_put]; exact hB) (l := l.take k ++ List.replicate (n - k) 0) (fun x hx => by
          rcases List.mem_append.1 hx with hx | hx
          · obtain ⟨i, hi, rfl⟩ := List.mem_iff_getElem.1 (List.mem_of_mem_take hx)
            exact (hb i hi).2
          · rw [(List.mem_replicate.1 hx).2]; omega) (by omega)
        have hT : List.take n (l.take k ++ List.replicate (n - k) (0 : Int)) = l.take k ++ List.replicate (n - k) 0 := List.take_of_length_le (by rw [hl']; exact Nat.le_refl _)
        rw [hT] at this
        exact this
namespace E
noncomputable def f22b : Code := Tryd.f22.body.getD .skip
noncomputable def f22ba : Code := cl f22b
noncomputable def f22bao : Array Oper := opsOf f22ba
noncomputable def f22bc : Code := cr f22b
noncomputable def f22bca : Code := cl f22bc
noncomputable def f22bcao : Array Oper := opsOf f22bca
noncomputable def f22bcc : Code := cr f22bc
noncomputable def f22bcca : Code := cl f22bcc
noncomputable def f22bccaa : Code := cl f22bcca
noncomputable def f22bccaao : Array Oper := opsOf f22bccaa
noncomputable def f22bccac : Code := cr f22bcca
noncomputable def f22bccaca : Code := cl f22bccac
noncomputable def f22bccacaa : Code := cl f22bccaca
noncomputable def f22bccacaaa : Code := cl f22bccacaa
noncomputable def f22bccacaaao : Array Oper := opsOf f22bccacaaa
noncomputable def f22bccacaac : Code := cr f22bccacaa
noncomputable def f22bccacaaca : Code := cl f22bccacaac
noncomputable def f22bccacaacc : Code := cr f22bccacaac
noncomputable def f22bccacaacca : Code := cl f22bccacaacc
noncomputable def f22bccacaaccaa : Code := cl f22bccacaacca
noncomputable def f22bccacaaccaaa : Code := cl f22bccacaaccaa
noncomputable def f22bccacaaccaaao : Array Oper := opsOf f22bccacaaccaaa
noncomputable def f22bccacaaccaac : Code := cr f22bccacaaccaa
noncomputable def f22bccacaaccaaca : Code := cl f22bccacaaccaac
noncomputable def f22bccacaaccaacaa : Code := cl f22bccacaaccaaca
noncomputable def f22bccacaaccaacaao : Array Oper := opsOf f22bccacaaccaacaa
noncomputable def f22bccacaaccaacac : Code := cr f22bccacaaccaaca
noncomputable def f22bccacaaccaacaca : Code := cl f22bccacaaccaacac
noncomputable def f22bccacaaccaacacaa : Code := cl f22bccacaaccaacaca
noncomputable def f22bccacaaccaacacaao : Array Oper := opsOf f22bccacaaccaacacaa
noncomputable def f22bccacaaccaacc : Code := cr f22bccacaaccaac
noncomputable def f22bccacaaccaacco : Array Oper := opsOf f22bccacaaccaacc
noncomputable def f22bccacaaccc : Code := cr f22bccacaacc
noncomputable def f22bccacaaccco : Array Oper := opsOf f22bccacaaccc
noncomputable def f22bccc : Code := cr f22bcc
noncomputable def f22bccca : Code := cl f22bccc
noncomputable def f22bcccao : Array Oper := opsOf f22bccca
theorem f22ba_eq : f22ba = .region 0 f22bao false := by kernel_rfl
theorem f22bca_eq : f22bca = .region 1 f22bcao false := by kernel_rfl
theorem f22bccaa_eq : f22bccaa = .region 2 f22bccaao false := by kernel_rfl
theorem f22bccacaaa_eq : f22bccacaaa = .region 3 f22bccacaaao false := by kernel_rfl
theorem f22bccacaaca_eq : f22bccacaaca = .cond (cop f22bccacaaca) .skip (.exit 0) := by kernel_rfl
theorem f22bccacaaccaaa_eq : f22bccacaaccaaa = .region 4 f22bccacaaccaaao false := by kernel_rfl
theorem f22bccacaaccaacaa_eq : f22bccacaaccaacaa = .region 5 f22bccacaaccaacaao false := by kernel_rfl
theorem f22bccacaaccaacacaa_eq : f22bccacaaccaacacaa = .region 6 f22bccacaaccaacacaao false := by kernel_rfl
theorem f22bccacaaccaacaca_eq : f22bccacaaccaacaca = .seq f22bccacaaccaacacaa .ret := by kernel_rfl
theorem f22bccacaaccaacac_eq : f22bccacaaccaacac = .cond (cop f22bccacaaccaacac) f22bccacaaccaacaca .skip := by kernel_rfl
theorem f22bccacaaccaaca_eq : f22bccacaaccaaca = .seq f22bccacaaccaacaa f22bccacaaccaacac := by kernel_rfl
theorem f22bccacaaccaacc_eq : f22bccacaaccaacc = .region 7 f22bccacaaccaacco false := by kernel_rfl
theorem f22bccacaaccaac_eq : f22bccacaaccaac = .seq f22bccacaaccaaca f22bccacaaccaacc := by kernel_rfl
theorem f22bccacaaccaa_eq : f22bccacaaccaa = .seq f22bccacaaccaaa f22bccacaaccaac := by kernel_rfl
theorem f22bccacaacca_eq : f22bccacaacca = .block 1 f22bccacaaccaa := by kernel_rfl
theorem f22bccacaaccc_eq : f22bccacaaccc = .region 8 f22bccacaaccco false := by kernel_rfl
theorem f22bccacaacc_eq : f22bccacaacc = .seq f22bccacaacca f22bccacaaccc := by kernel_rfl
theorem f22bccacaac_eq : f22bccacaac = .seq f22bccacaaca f22bccacaacc := by kernel_rfl
theorem f22bccacaa_eq : f22bccacaa = .seq f22bccacaaa f22bccacaac := by kernel_rfl
theorem f22bccaca_eq : f22bccaca = .loop f22bccacaa := by kernel_rfl
theorem f22bccac_eq : f22bccac = .block 0 f22bccaca := by kernel_rfl
theorem f22bcca_eq : f22bcca = .seq f22bccaa f22bccac := by kernel_rfl
theorem f22bccca_eq : f22bccca = .region 9 f22bcccao false := by kernel_rfl
theorem f22bccc_eq : f22bccc = .seq f22bccca .ret := by kernel_rfl
theorem f22bcc_eq : f22bcc = .seq f22bcca f22bccc := by kernel_rfl
theorem f22bc_eq : f22bc = .seq f22bca f22bcc := by kernel_rfl
theorem f22b_eq : f22b = .seq f22ba f22bc := by kernel_rfl
theorem f22_body : Tryd.f22.body = some f22b := by kernel_rfl
theorem f22_fn : T14.fn 22 = some Tryd.f22 := by kernel_rfl
noncomputable def f12b : Code := Tryd.f12.body.getD .skip
noncomputable def f12ba : Code := cl f12b
noncomputable def f12bao : Array Oper := opsOf f12ba
noncomputable def f12bc : Code := cr f12b
noncomputable def f12bca : Code := cl f12bc
noncomputable def f12bcao : Array Oper := opsOf f12bca
theorem f12ba_eq : f12ba = .region 0 f12bao false := by kernel_rfl
theorem f12bca_eq : f12bca = .region 1 f12bcao false := by kernel_rfl
theorem f12bc_eq : f12bc = .seq f12bca .ret := by kernel_rfl
theorem f12b_eq : f12b = .seq f12ba f12bc := by kernel_rfl
theorem f12_body : Tryd.f12.body = some f12b := by kernel_rfl
theorem f12_fn : T14.fn 12 = some Tryd.f12 := by kernel_rfl
theorem join1_ok {op rd ra rb im : Int} {H : Heap} {A : Nat} (gA : H.get A = some ⟨[.int .i64 op, .int .i64 rd, .int .i64 ra, .int .i64 rb, .int .u32 im], 24, false⟩) (hA : A < H.n) (hr : rightV op rd ra rb im = true) : ACall Tryd.prog T14 22 #[.slice (some ⟨A, 0, none⟩) 1 1] H fun r H' => ∃ B, r = .tuple #[.slice (some ⟨B, 0, none⟩) 8 (unk + 1), .int .i64 0] ∧ H'.get B = some ⟨enc8 op rd ra rb im, 5, false⟩ ∧ B < H'.n ∧ H.n ≤ B ∧ Up H.n H H' := by
  refine acall_of' 48 (initTm 0 #[.slice (some ⟨A, 0, none⟩) 1 1]) rfl f22_fn f22_body rfl rfl ?_
  refine aw_code f22b_eq ?_
  refine aw_then ?_
  refine aw_code f22ba_eq ?_
  refine aw_reg ?_
  refine aops_go 2 60 (by kernel_rfl) ?_
  refine aops_end (by kernel_rfl) (then_normal ?_)
  refine aw_code f22bc_eq ?_
  refine aw_then ?_
  refine aw_code f22bca_eq ?_
  refine aw_reg ?_
  refine aops_go 1 60 (by kernel_rfl) ?_
  refine aops_end (by kernel_rfl) (then_normal ?_)
  refine aw_code f22bcc_eq ?_
  refine aw_then ?_
  refine aw_code f22bcca_eq ?_
  refine aw_then ?_
  refine aw_code f22bccaa_eq ?_
  refine aw_reg ?_
  refine aops_go 3 60 (by kernel_rfl) ?_
  refine aops_end (by kernel_rfl) (then_normal ?_)
  refine aw_code f22bccac_eq ?_
  refine aw_block ?_
  refine aw_code f22bccaca_eq ?_
  refine aw_loop_k fun K1_ hK1_ => ?_
  refine aw_code f22bccacaa_eq ?_
  refine aw_then ?_
  refine aw_code f22bccacaaa_eq ?_
  refine aw_reg ?_
  refine aops_go 1 60 (by kernel_rfl) ?_
  refine aops_end (by kernel_rfl) (then_normal ?_)
  refine aw_code f22bccacaac_eq ?_
  refine aw_then ?_
  refine aw_code f22bccacaaca_eq ?_
  refine aw_cond (t := true) (by kernel_rfl) ?_
  refine aw_skip (then_normal ?_)
  refine aw_code f22bccacaacc_eq ?_
  refine aw_then ?_
  refine aw_code f22bccacaacca_eq ?_
  refine aw_block ?_
  refine aw_code f22bccacaaccaa_eq ?_
  refine aw_then ?_
  refine aw_code f22bccacaaccaaa_eq ?_
  refine aw_reg ?_
  refine aops_go 1 60 (by kernel_rfl) ?_
  refine aops_val 12 (.agg #[.int .i64 op, .int .i64 rd, .int .i64 ra, .int .i64 rb, .int .u32 im]) H (by kernel_rfl) (by kernel_rfl) (by kernel_rfl) ((by kernel_rfl : _ = val (aload T14 24 (.pointer (some ⟨A, 0, none⟩)) H) H).trans (val_of ((aload_at gA).trans (by kernel_rfl)))) ?_
  obtain ⟨H1_, hH1_⟩ : ∃ x : Heap, x = H.push ⟨[Value.int .i64 0, .int .i64 0, .int .i64 0, .int .i64 0, .int .u32 0], 24, false⟩ := ⟨_, rfl⟩
  have nH1_ : H1_.n = H.n + 1 := by rw [hH1_]; rfl
  refine aops_val 6 (.pointer (some ⟨H.n, 0, none⟩)) H1_ (by kernel_rfl) (by kernel_rfl) (by kernel_rfl) ((by kernel_rfl : _ = some (Res.val (.pointer (some ⟨H.n, 0, none⟩)), H.push ⟨[Value.int .i64 0, .int .i64 0, .int .i64 0, .int .i64 0, .int .u32 0], 24, false⟩)).trans (by rw [← hH1_])) ?_
  have gH1_H_n : H1_.get (H.n) = some ⟨[Value.int .i64 0, .int .i64 0, .int .i64 0, .int .i64 0, .int .u32 0], 24, false⟩ := by rw [hH1_]; exact (Heap.get_push _ _ _).trans (if_pos rfl)
  obtain ⟨H2_, hH2_⟩ : ∃ x : Heap, x = H1_.put (H.n) ⟨[Value.int .i64 op, .int .i64 rd, .int .i64 ra, .int .i64 rb, .int .u32 im], 24, false⟩ := ⟨_, rfl⟩
  have nH2_ : H2_.n = H1_.n := by rw [hH2_]; rfl
  refine aops_skip H2_ (by kernel_rfl) (by kernel_rfl) (by kernel_rfl) ((by kernel_rfl : _ = skp (astore T14 24 (.pointer (some ⟨H.n, 0, none⟩)) (.agg #[.int .i64 op, .int .i64 rd, .int .i64 ra, .int .i64 rb, .int .u32 im]) H1_)).trans (by rw [astore_to gH1_H_n (by kernel_rfl), ← hH2_]; rfl)) ?_
  refine aops_end (by kernel_rfl) (then_normal ?_)
  refine aw_code f22bccacaaccaac_eq ?_
  refine aw_then ?_
  refine aw_code f22bccacaaccaaca_eq ?_
  refine aw_then ?_
  refine aw_code f22bccacaaccaacaa_eq ?_
  refine aw_reg ?_
  have gH2_H_n : H2_.get (H.n) = some ⟨[Value.int .i64 op, .int .i64 rd, .int .i64 ra, .int .i64 rb, .int .u32 im], 24, false⟩ := by rw [hH2_]; exact (Heap.get_put _ _ _ _).trans (if_pos rfl)
  refine aops_val 13 (.agg #[.int .i64 op, .int .i64 rd, .int .i64 ra, .int .i64 rb, .int .u32 im]) H2_ (by kernel_rfl) (by kernel_rfl) (by kernel_rfl) ((by kernel_rfl : _ = val (aload T14 24 (.pointer (some ⟨H.n, 0, none⟩)) H2_) H2_).trans (val_of ((aload_at gH2_H_n).trans (by kernel_rfl)))) ?_
  refine aops_ask 14 (.bool true) 19 #[.agg #[.int .i64 op, .int .i64 rd, .int .i64 ra, .int .i64 rb, .int .u32 im]] (by kernel_rfl) (by kernel_rfl) (by kernel_rfl) (by kernel_rfl) (show some (Value.bool (rightV op rd ra rb im)) = _ by rw [hr]) ?_
  refine aops_go 1 60 (by kernel_rfl) ?_
  refine aops_end (by kernel_rfl) (then_normal ?_)
  refine aw_code f22bccacaaccaacac_eq ?_
  refine aw_cond (t := false) (by kernel_rfl) ?_
  refine aw_skip (then_normal ?_)
  refine aw_code f22bccacaaccaacc_eq ?_
  refine aw_reg ?_
  refine aops_go 2 60 (by kernel_rfl) ?_
  refine aops_val 18 (.int .i64 op) H2_ (by kernel_rfl) (by kernel_rfl) (by kernel_rfl) ((by kernel_rfl : _ = val (aload T14 3 (.pointer (some ⟨H.n, 0, none⟩)) H2_) H2_).trans (val_of ((aload_at gH2_H_n).trans (by kernel_rfl)))) ?_
  refine aops_go 2 60 (by kernel_rfl) ?_
  refine aops_val 21 (.int .i64 rd) H2_ (by kernel_rfl) (by kernel_rfl) (by kernel_rfl) ((by kernel_rfl : _ = val (aload T14 3 (.pointer (some ⟨H.n, 1, none⟩)) H2_) H2_).trans (val_of ((aload_at gH2_H_n).trans (by kernel_rfl)))) ?_
  refine aops_go 2 60 (by kernel_rfl) ?_
  refine aops_val 24 (.int .i64 ra) H2_ (by kernel_rfl) (by kernel_rfl) (by kernel_rfl) ((by kernel_rfl : _ = val (aload T14 3 (.pointer (some ⟨H.n, 2, none⟩)) H2_) H2_).trans (val_of ((aload_at gH2_H_n).trans (by kernel_rfl)))) ?_
  refine aops_go 2 60 (by kernel_rfl) ?_
  refine aops_val 27 (.int .i64 rb) H2_ (by kernel_rfl) (by kernel_rfl) (by kernel_rfl) ((by kernel_rfl : _ = val (aload T14 3 (.pointer (some ⟨H.n, 3, none⟩)) H2_) H2_).trans (val_of ((aload_at gH2_H_n).trans (by kernel_rfl)))) ?_
  refine aops_go 2 60 (by kernel_rfl) ?_
  refine aops_val 30 (.int .u32 im) H2_ (by kernel_rfl) (by kernel_rfl) (by kernel_rfl) ((by kernel_rfl : _ = val (aload T14 22 (.pointer (some ⟨H.n, 4, none⟩)) H2_) H2_).trans (val_of ((aload_at gH2_H_n).trans (by kernel_rfl)))) ?_
  refine aops_go 2 60 (by kernel_rfl) ?_
  refine aops_val 33 (.int .u32 im) H2_ (by kernel_rfl) (by kernel_rfl) (by kernel_rfl) ((by kernel_rfl : _ = val (aload T14 22 (.pointer (some ⟨H.n, 4, none⟩)) H2_) H2_).trans (val_of ((aload_at gH2_H_n).trans (by kernel_rfl)))) ?_
  refine aops_go 3 60 (by kernel_rfl) ?_
  refine aops_val 37 (.int .u32 im) H2_ (by kernel_rfl) (by kernel_rfl) (by kernel_rfl) ((by kernel_rfl : _ = val (aload T14 22 (.pointer (some ⟨H.n, 4, none⟩)) H2_) H2_).trans (val_of ((aload_at gH2_H_n).trans (by kernel_rfl)))) ?_
  refine aops_go 3 60 (by kernel_rfl) ?_
  refine aops_val 41 (.int .u32 im) H2_ (by kernel_rfl) (by kernel_rfl) (by kernel_rfl) ((by kernel_rfl : _ = val (aload T14 22 (.pointer (some ⟨H.n, 4, none⟩)) H2_) H2_).trans (val_of ((aload_at gH2_H_n).trans (by kernel_rfl)))) ?_
  refine aops_go 2 60 (by kernel_rfl) ?_
  obtain ⟨H3_, hH3_⟩ : ∃ x : Heap, x = H2_.push ⟨[Value.int .u8 (IntKind.u8.wrap op), .int .u8 (IntKind.u8.wrap rd), .int .u8 (IntKind.u8.wrap ra), .int .u8 (IntKind.u8.wrap rb), .int .u8 (IntKind.u8.wrap im), .int .u8 (IntKind.u8.wrap (Int.fdiv im 256)), .int .u8 (IntKind.u8.wrap (Int.fdiv im 65536)), .int .u8 (IntKind.u8.wrap (Int.fdiv im 16777216))], 5, false⟩ := ⟨_, rfl⟩
  have nH3_ : H3_.n = H2_.n + 1 := by rw [hH3_]; rfl
  refine aops_val 44 (.slice (some ⟨H2_.n, 0, none⟩) 8 8) H3_ (by kernel_rfl) (by kernel_rfl) (by kernel_rfl) ((by kernel_rfl : _ = some (Res.val (.slice (some ⟨H2_.n, 0, none⟩) 8 8), H2_.push ⟨[Value.int .u8 (IntKind.u8.wrap op), .int .u8 (IntKind.u8.wrap rd), .int .u8 (IntKind.u8.wrap ra), .int .u8 (IntKind.u8.wrap rb), .int .u8 (IntKind.u8.wrap im), .int .u8 (IntKind.u8.wrap (Int.fdiv im 256)), .int .u8 (IntKind.u8.wrap (Int.fdiv im 65536)), .int .u8 (IntKind.u8.wrap (Int.fdiv im 16777216))], 5, false⟩)).trans (by rw [← hH3_])) ?_
  have gH3_H2__n : H3_.get (H2_.n) = some ⟨[Value.int .u8 (IntKind.u8.wrap op), .int .u8 (IntKind.u8.wrap rd), .int .u8 (IntKind.u8.wrap ra), .int .u8 (IntKind.u8.wrap rb), .int .u8 (IntKind.u8.wrap im), .int .u8 (IntKind.u8.wrap (Int.fdiv im 256)), .int .u8 (IntKind.u8.wrap (Int.fdiv im 65536)), .int .u8 (IntKind.u8.wrap (Int.fdiv im 16777216))], 5, false⟩ := by rw [hH3_]; exact (Heap.get_push _ _ _).trans (if_pos rfl)
  obtain ⟨H4_, hH4_⟩ : ∃ x : Heap, x = H3_.push ⟨[Value.int .u8 (IntKind.u8.wrap op), .int .u8 (IntKind.u8.wrap rd), .int .u8 (IntKind.u8.wrap ra), .int .u8 (IntKind.u8.wrap rb), .int .u8 (IntKind.u8.wrap im), .int .u8 (IntKind.u8.wrap (Int.fdiv im 256)), .int .u8 (IntKind.u8.wrap (Int.fdiv im 65536)), .int .u8 (IntKind.u8.wrap (Int.fdiv im 16777216))], 5, false⟩ := ⟨_, rfl⟩
  have nH4_ : H4_.n = H3_.n + 1 := by rw [hH4_]; rfl
  refine aops_val 45 (.slice (some ⟨H3_.n, 0, none⟩) 8 (unk + 1)) H4_ (by kernel_rfl) (by kernel_rfl) (by kernel_rfl) ((by kernel_rfl : _ = val2 (aappend T14 28 28 (.slice none 0 0) (.slice (some ⟨H2_.n, 0, none⟩) 8 8) H3_)).trans (by rw [aappend_nil (e := 5) (xd := .slice 5) (s0 := 0) (by_ := 0) (z := .int .u8 0) (by kernel_rfl) (by kernel_rfl) rfl (by kernel_rfl) (by kernel_rfl) (by kernel_rfl) (asrc_blk (l := [Value.int .u8 (IntKind.u8.wrap op), .int .u8 (IntKind.u8.wrap rd), .int .u8 (IntKind.u8.wrap ra), .int .u8 (IntKind.u8.wrap rb), .int .u8 (IntKind.u8.wrap im), .int .u8 (IntKind.u8.wrap (Int.fdiv im 256)), .int .u8 (IntKind.u8.wrap (Int.fdiv im 65536)), .int .u8 (IntKind.u8.wrap (Int.fdiv im 16777216))]) gH3_H2__n rfl rfl) (by omega) (by omega), ← hH4_]; rfl)) ?_
  refine aops_go 1 60 (by kernel_rfl) ?_
  refine aops_end (by kernel_rfl) (blk_normal (then_normal ?_))
  refine aw_code f22bccacaaccc_eq ?_
  refine aw_reg ?_
  refine aops_go 2 60 (by kernel_rfl) ?_
  refine aops_end (by kernel_rfl) (then_normal (hK1_ _ ?_))
  refine aw_loop_k fun K2_ hK2_ => ?_
  refine aw_code f22bccacaa_eq ?_
  refine aw_then ?_
  refine aw_code f22bccacaaa_eq ?_
  refine aw_reg ?_
  refine aops_go 1 60 (by kernel_rfl) ?_
  refine aops_end (by kernel_rfl) (then_normal ?_)
  refine aw_code f22bccacaac_eq ?_
  refine aw_then ?_
  refine aw_code f22bccacaaca_eq ?_
  refine aw_cond (t := false) (by kernel_rfl) ?_
  refine aw_exit (then_exit (then_exit (blk_hit (then_normal ?_))))
  refine aw_code f22bccc_eq ?_
  refine aw_then ?_
  refine aw_code f22bccca_eq ?_
  refine aw_reg ?_
  refine aops_go 3 60 (by kernel_rfl) ?_
  refine aops_end (by kernel_rfl) (then_normal ?_)
  refine aw_ret (bodyQ_ret_to (.tuple #[.slice (some ⟨H3_.n, 0, none⟩) 8 (unk + 1), .int .i64 0]) H4_ (by kernel_rfl) (by kernel_rfl) ?_)
  have gH4_H3__n : H4_.get (H3_.n) = some ⟨[Value.int .u8 (IntKind.u8.wrap op), .int .u8 (IntKind.u8.wrap rd), .int .u8 (IntKind.u8.wrap ra), .int .u8 (IntKind.u8.wrap rb), .int .u8 (IntKind.u8.wrap im), .int .u8 (IntKind.u8.wrap (Int.fdiv im 256)), .int .u8 (IntKind.u8.wrap (Int.fdiv im 65536)), .int .u8 (IntKind.u8.wrap (Int.fdiv im 16777216))], 5, false⟩ := by rw [hH4_]; exact (Heap.get_push _ _ _).trans (if_pos rfl)
  exact ⟨H3_.n, rfl, gH4_H3__n, by omega, by omega, (show Up H.n H H4_ from hH4_ ▸ Up.push (by omega) ((show Up H.n H H3_ from hH3_ ▸ Up.push (by omega) ((show Up H.n H H2_ from hH2_ ▸ Up.put ((show Up H.n H H1_ from hH1_ ▸ Up.push (by omega) (Up.refl _) _)) (by omega) _)) _)) _)⟩
theorem join1_no {op rd ra rb im : Int} {H : Heap} {A : Nat} (gA : H.get A = some ⟨[.int .i64 op, .int .i64 rd, .int .i64 ra, .int .i64 rb, .int .u32 im], 24, false⟩) (hA : A < H.n) (hr : rightV op rd ra rb im = false) : ACall Tryd.prog T14 22 #[.slice (some ⟨A, 0, none⟩) 1 1] H fun r H' => r = .tuple #[.slice none 0 0, .int .i64 12] ∧ Up H.n H H' := by
  refine acall_of' 48 (initTm 0 #[.slice (some ⟨A, 0, none⟩) 1 1]) rfl f22_fn f22_body rfl rfl ?_
  refine aw_code f22b_eq ?_
  refine aw_then ?_
  refine aw_code f22ba_eq ?_
  refine aw_reg ?_
  refine aops_go 2 60 (by kernel_rfl) ?_
  refine aops_end (by kernel_rfl) (then_normal ?_)
  refine aw_code f22bc_eq ?_
  refine aw_then ?_
  refine aw_code f22bca_eq ?_
  refine aw_reg ?_
  refine aops_go 1 60 (by kernel_rfl) ?_
  refine aops_end (by kernel_rfl) (then_normal ?_)
  refine aw_code f22bcc_eq ?_
  refine aw_then ?_
  refine aw_code f22bcca_eq ?_
  refine aw_then ?_
  refine aw_code f22bccaa_eq ?_
  refine aw_reg ?_
  refine aops_go 3 60 (by kernel_rfl) ?_
  refine aops_end (by kernel_rfl) (then_normal ?_)
  refine aw_code f22bccac_eq ?_
  refine aw_block ?_
  refine aw_code f22bccaca_eq ?_
  refine aw_loop_k fun K1_ hK1_ => ?_
  refine aw_code f22bccacaa_eq ?_
  refine aw_then ?_
  refine aw_code f22bccacaaa_eq ?_
  refine aw_reg ?_
  refine aops_go 1 60 (by kernel_rfl) ?_
  refine aops_end (by kernel_rfl) (then_normal ?_)
  refine aw_code f22bccacaac_eq ?_
  refine aw_then ?_
  refine aw_code f22bccacaaca_eq ?_
  refine aw_cond (t := true) (by kernel_rfl) ?_
  refine aw_skip (then_normal ?_)
  refine aw_code f22bccacaacc_eq ?_
  refine aw_then ?_
  refine aw_code f22bccacaacca_eq ?_
  refine aw_block ?_
  refine aw_code f22bccacaaccaa_eq ?_
  refine aw_then ?_
  refine aw_code f22bccacaaccaaa_eq ?_
  refine aw_reg ?_
  refine aops_go 1 60 (by kernel_rfl) ?_
  refine aops_val 12 (.agg #[.int .i64 op, .int .i64 rd, .int .i64 ra, .int .i64 rb, .int .u32 im]) H (by kernel_rfl) (by kernel_rfl) (by kernel_rfl) ((by kernel_rfl : _ = val (aload T14 24 (.pointer (some ⟨A, 0, none⟩)) H) H).trans (val_of ((aload_at gA).trans (by kernel_rfl)))) ?_
  obtain ⟨H1_, hH1_⟩ : ∃ x : Heap, x = H.push ⟨[Value.int .i64 0, .int .i64 0, .int .i64 0, .int .i64 0, .int .u32 0], 24, false⟩ := ⟨_, rfl⟩
  have nH1_ : H1_.n = H.n + 1 := by rw [hH1_]; rfl
  refine aops_val 6 (.pointer (some ⟨H.n, 0, none⟩)) H1_ (by kernel_rfl) (by kernel_rfl) (by kernel_rfl) ((by kernel_rfl : _ = some (Res.val (.pointer (some ⟨H.n, 0, none⟩)), H.push ⟨[Value.int .i64 0, .int .i64 0, .int .i64 0, .int .i64 0, .int .u32 0], 24, false⟩)).trans (by rw [← hH1_])) ?_
  have gH1_H_n : H1_.get (H.n) = some ⟨[Value.int .i64 0, .int .i64 0, .int .i64 0, .int .i64 0, .int .u32 0], 24, false⟩ := by rw [hH1_]; exact (Heap.get_push _ _ _).trans (if_pos rfl)
  obtain ⟨H2_, hH2_⟩ : ∃ x : Heap, x = H1_.put (H.n) ⟨[Value.int .i64 op, .int .i64 rd, .int .i64 ra, .int .i64 rb, .int .u32 im], 24, false⟩ := ⟨_, rfl⟩
  have nH2_ : H2_.n = H1_.n := by rw [hH2_]; rfl
  refine aops_skip H2_ (by kernel_rfl) (by kernel_rfl) (by kernel_rfl) ((by kernel_rfl : _ = skp (astore T14 24 (.pointer (some ⟨H.n, 0, none⟩)) (.agg #[.int .i64 op, .int .i64 rd, .int .i64 ra, .int .i64 rb, .int .u32 im]) H1_)).trans (by rw [astore_to gH1_H_n (by kernel_rfl), ← hH2_]; rfl)) ?_
  refine aops_end (by kernel_rfl) (then_normal ?_)
  refine aw_code f22bccacaaccaac_eq ?_
  refine aw_then ?_
  refine aw_code f22bccacaaccaaca_eq ?_
  refine aw_then ?_
  refine aw_code f22bccacaaccaacaa_eq ?_
  refine aw_reg ?_
  have gH2_H_n : H2_.get (H.n) = some ⟨[Value.int .i64 op, .int .i64 rd, .int .i64 ra, .int .i64 rb, .int .u32 im], 24, false⟩ := by rw [hH2_]; exact (Heap.get_put _ _ _ _).trans (if_pos rfl)
  refine aops_val 13 (.agg #[.int .i64 op, .int .i64 rd, .int .i64 ra, .int .i64 rb, .int .u32 im]) H2_ (by kernel_rfl) (by kernel_rfl) (by kernel_rfl) ((by kernel_rfl : _ = val (aload T14 24 (.pointer (some ⟨H.n, 0, none⟩)) H2_) H2_).trans (val_of ((aload_at gH2_H_n).trans (by kernel_rfl)))) ?_
  refine aops_ask 14 (.bool false) 19 #[.agg #[.int .i64 op, .int .i64 rd, .int .i64 ra, .int .i64 rb, .int .u32 im]] (by kernel_rfl) (by kernel_rfl) (by kernel_rfl) (by kernel_rfl) (show some (Value.bool (rightV op rd ra rb im)) = _ by rw [hr]) ?_
  refine aops_go 1 60 (by kernel_rfl) ?_
  refine aops_end (by kernel_rfl) (then_normal ?_)
  refine aw_code f22bccacaaccaacac_eq ?_
  refine aw_cond (t := true) (by kernel_rfl) ?_
  refine aw_code f22bccacaaccaacaca_eq ?_
  refine aw_then ?_
  refine aw_code f22bccacaaccaacacaa_eq ?_
  refine aw_reg ?_
  refine aops_go 2 60 (by kernel_rfl) ?_
  refine aops_end (by kernel_rfl) (then_normal ?_)
  refine aw_ret (then_ret (blk_ret (then_ret (then_ret (blk_ret (then_ret (bodyQ_ret_to (.tuple #[.slice none 0 0, .int .i64 12]) H2_ (by kernel_rfl) (by kernel_rfl) ?_)))))))
  exact ⟨rfl, (show Up H.n H H2_ from hH2_ ▸ Up.put ((show Up H.n H H1_ from hH1_ ▸ Up.push (by omega) (Up.refl _) _)) (by omega) _)⟩
theorem enc_ok {op rd ra rb im : Int} {H : Heap} (hr : rightV op rd ra rb im = true) : ACall Tryd.prog T14 12 #[.agg #[.int .i64 op, .int .i64 rd, .int .i64 ra, .int .i64 rb, .int .u32 im]] H fun r H' => ∃ B, r = .tuple #[.slice (some ⟨B, 0, none⟩) 8 (unk + 1), .int .i64 0] ∧ H'.get B = some ⟨enc8 op rd ra rb im, 5, false⟩ ∧ B < H'.n ∧ H.n ≤ B ∧ Up H.n H H' := by
  refine acall_of' 9 (initTm 0 #[.agg #[.int .i64 op, .int .i64 rd, .int .i64 ra, .int .i64 rb, .int .u32 im]]) rfl f12_fn f12_body rfl rfl ?_
  refine aw_code f12b_eq ?_
  refine aw_then ?_
  refine aw_code f12ba_eq ?_
  refine aw_reg ?_
  obtain ⟨H1_, hH1_⟩ : ∃ x : Heap, x = H.push ⟨[Value.int .i64 op, .int .i64 rd, .int .i64 ra, .int .i64 rb, .int .u32 im], 24, false⟩ := ⟨_, rfl⟩
  have nH1_ : H1_.n = H.n + 1 := by rw [hH1_]; rfl
  refine aops_val 1 (.pointer (some ⟨H.n, 0, none⟩)) H1_ (by kernel_rfl) (by kernel_rfl) (by kernel_rfl) ((by kernel_rfl : _ = some (Res.val (.pointer (some ⟨H.n, 0, none⟩)), H.push ⟨[Value.int .i64 op, .int .i64 rd, .int .i64 ra, .int .i64 rb, .int .u32 im], 24, false⟩)).trans (by rw [← hH1_])) ?_
  refine aops_go 2 60 (by kernel_rfl) ?_
  refine aops_end (by kernel_rfl) (then_normal ?_)
  refine aw_code f12bc_eq ?_
  refine aw_then ?_
  refine aw_code f12bca_eq ?_
  refine aw_reg ?_
  have gH1_H_n : H1_.get (H.n) = some ⟨[Value.int .i64 op, .int .i64 rd, .int .i64 ra, .int .i64 rb, .int .u32 im], 24, false⟩ := by rw [hH1_]; exact (Heap.get_push _ _ _).trans (if_pos rfl)
  refine aops_val 4 (.agg #[.int .i64 op, .int .i64 rd, .int .i64 ra, .int .i64 rb, .int .u32 im]) H1_ (by kernel_rfl) (by kernel_rfl) (by kernel_rfl) ((by kernel_rfl : _ = val (aload T14 24 (.pointer (some ⟨H.n, 0, none⟩)) H1_) H1_).trans (val_of ((aload_at gH1_H_n).trans (by kernel_rfl)))) ?_
  obtain ⟨H2_, hH2_⟩ : ∃ x : Heap, x = H1_.push ⟨[Value.int .i64 op, .int .i64 rd, .int .i64 ra, .int .i64 rb, .int .u32 im], 24, false⟩ := ⟨_, rfl⟩
  have nH2_ : H2_.n = H1_.n + 1 := by rw [hH2_]; rfl
  refine aops_val 5 (.slice (some ⟨H1_.n, 0, none⟩) 1 1) H2_ (by kernel_rfl) (by kernel_rfl) (by kernel_rfl) ((by kernel_rfl : _ = some (Res.val (.slice (some ⟨H1_.n, 0, none⟩) 1 1), H1_.push ⟨[Value.int .i64 op, .int .i64 rd, .int .i64 ra, .int .i64 rb, .int .u32 im], 24, false⟩)).trans (by rw [← hH2_])) ?_
  have gH2_H1__n : H2_.get (H1_.n) = some ⟨[Value.int .i64 op, .int .i64 rd, .int .i64 ra, .int .i64 rb, .int .u32 im], 24, false⟩ := by rw [hH2_]; exact (Heap.get_push _ _ _).trans (if_pos rfl)
  refine aops_call_to 6 22 #[.slice (some ⟨H1_.n, 0, none⟩) 1 1] H2_ (by kernel_rfl) (by kernel_rfl) (fun v => (by kernel_rfl)) (by kernel_rfl) (by kernel_rfl) (join1_ok gH2_H1__n (by omega) hr) ?_
  rintro _ H3_ ⟨B, rfl, gB, hB, hB2, uH3_⟩
  have nH3_ := uH3_.n
  refine aops_go 4 60 (by kernel_rfl) ?_
  refine aops_end (by kernel_rfl) (then_normal ?_)
  refine aw_ret (bodyQ_ret_to (.tuple #[.slice (some ⟨B, 0, none⟩) 8 (unk + 1), .int .i64 0]) H3_ (by kernel_rfl) (by kernel_rfl) ?_)
  exact ⟨B, rfl, gB, hB, by omega, (Up.trans ((show Up H.n H H2_ from hH2_ ▸ Up.push (by omega) ((show Up H.n H H1_ from hH1_ ▸ Up.push (by omega) (Up.refl _) _)) _)) (uH3_.mono (by omega)))⟩
theorem enc_no {op rd ra rb im : Int} {H : Heap} (hr : rightV op rd ra rb im = false) : ACall Tryd.prog T14 12 #[.agg #[.int .i64 op, .int .i64 rd, .int .i64 ra, .int .i64 rb, .int .u32 im]] H fun r H' => r = .tuple #[.slice none 0 0, .int .i64 12] ∧ Up H.n H H' := by
  refine acall_of' 9 (initTm 0 #[.agg #[.int .i64 op, .int .i64 rd, .int .i64 ra, .int .i64 rb, .int .u32 im]]) rfl f12_fn f12_body rfl rfl ?_
  refine aw_code f12b_eq ?_
  refine aw_then ?_
  refine aw_code f12ba_eq ?_
  refine aw_reg ?_
  obtain ⟨H1_, hH1_⟩ : ∃ x : Heap, x = H.push ⟨[Value.int .i64 op, .int .i64 rd, .int .i64 ra, .int .i64 rb, .int .u32 im], 24, false⟩ := ⟨_, rfl⟩
  have nH1_ : H1_.n = H.n + 1 := by rw [hH1_]; rfl
  refine aops_val 1 (.pointer (some ⟨H.n, 0, none⟩)) H1_ (by kernel_rfl) (by kernel_rfl) (by kernel_rfl) ((by kernel_rfl : _ = some (Res.val (.pointer (some ⟨H.n, 0, none⟩)), H.push ⟨[Value.int .i64 op, .int .i64 rd, .int .i64 ra, .int .i64 rb, .int .u32 im], 24, false⟩)).trans (by rw [← hH1_])) ?_
  refine aops_go 2 60 (by kernel_rfl) ?_
  refine aops_end (by kernel_rfl) (then_normal ?_)
  refine aw_code f12bc_eq ?_
  refine aw_then ?_
  refine aw_code f12bca_eq ?_
  refine aw_reg ?_
  have gH1_H_n : H1_.get (H.n) = some ⟨[Value.int .i64 op, .int .i64 rd, .int .i64 ra, .int .i64 rb, .int .u32 im], 24, false⟩ := by rw [hH1_]; exact (Heap.get_push _ _ _).trans (if_pos rfl)
  refine aops_val 4 (.agg #[.int .i64 op, .int .i64 rd, .int .i64 ra, .int .i64 rb, .int .u32 im]) H1_ (by kernel_rfl) (by kernel_rfl) (by kernel_rfl) ((by kernel_rfl : _ = val (aload T14 24 (.pointer (some ⟨H.n, 0, none⟩)) H1_) H1_).trans (val_of ((aload_at gH1_H_n).trans (by kernel_rfl)))) ?_
  obtain ⟨H2_, hH2_⟩ : ∃ x : Heap, x = H1_.push ⟨[Value.int .i64 op, .int .i64 rd, .int .i64 ra, .int .i64 rb, .int .u32 im], 24, false⟩ := ⟨_, rfl⟩
  have nH2_ : H2_.n = H1_.n + 1 := by rw [hH2_]; rfl
  refine aops_val 5 (.slice (some ⟨H1_.n, 0, none⟩) 1 1) H2_ (by kernel_rfl) (by kernel_rfl) (by kernel_rfl) ((by kernel_rfl : _ = some (Res.val (.slice (some ⟨H1_.n, 0, none⟩) 1 1), H1_.push ⟨[Value.int .i64 op, .int .i64 rd, .int .i64 ra, .int .i64 rb, .int .u32 im], 24, false⟩)).trans (by rw [← hH2_])) ?_
  have gH2_H1__n : H2_.get (H1_.n) = some ⟨[Value.int .i64 op, .int .i64 rd, .int .i64 ra, .int .i64 rb, .int .u32 im], 24, false⟩ := by rw [hH2_]; exact (Heap.get_push _ _ _).trans (if_pos rfl)
  refine aops_call_to 6 22 #[.slice (some ⟨H1_.n, 0, none⟩) 1 1] H2_ (by kernel_rfl) (by kernel_rfl) (fun v => (by kernel_rfl)) (by kernel_rfl) (by kernel_rfl) (join1_no gH2_H1__n (by omega) hr) ?_
  rintro _ H3_ ⟨rfl, uH3_⟩
  have nH3_ := uH3_.n
  refine aops_go 4 60 (by kernel_rfl) ?_
  refine aops_end (by kernel_rfl) (then_normal ?_)
  refine aw_ret (bodyQ_ret_to (.tuple #[.slice none 0 0, .int .i64 12]) H3_ (by kernel_rfl) (by kernel_rfl) ?_)
  exact ⟨rfl, (Up.trans ((show Up H.n H H2_ from hH2_ ▸ Up.push (by omega) ((show Up H.n H H1_ from hH1_ ▸ Up.push (by omega) (Up.refl _) _)) _)) (uH3_.mono (by omega)))⟩
noncomputable def f9b : Code := Tryd.f9.body.getD .skip
noncomputable def f9ba : Code := cl f9b
noncomputable def f9bao : Array Oper := opsOf f9ba
noncomputable def f9bc : Code := cr f9b
noncomputable def f9bca : Code := cl f9bc
noncomputable def f9bcao : Array Oper := opsOf f9bca
theorem f9ba_eq : f9ba = .region 0 f9bao false := by kernel_rfl
theorem f9bca_eq : f9bca = .region 1 f9bcao false := by kernel_rfl
theorem f9bc_eq : f9bc = .seq f9bca .ret := by kernel_rfl
theorem f9b_eq : f9b = .seq f9ba f9bc := by kernel_rfl
theorem f9_body : Tryd.f9.body = some f9b := by kernel_rfl
theorem f9_fn : T14.fn 9 = some Tryd.f9 := by kernel_rfl
theorem renc {op rd ra rb im : Int} {H : Heap} : ACall Tryd.prog T14 9 #[.agg #[.int .i64 op, .int .i64 rd, .int .i64 ra, .int .i64 rb, .int .u32 im]] H fun r H' => ∃ B, r = .slice (some ⟨B, 0, none⟩) 8 8 ∧ H'.get B = some ⟨enc8 op rd ra rb im, 5, false⟩ ∧ B < H'.n ∧ H.n ≤ B ∧ Up H.n H H' := by
  refine acall_of' 31 (initTm 0 #[.agg #[.int .i64 op, .int .i64 rd, .int .i64 ra, .int .i64 rb, .int .u32 im]]) rfl f9_fn f9_body rfl rfl ?_
  refine aw_code f9b_eq ?_
  refine aw_then ?_
  refine aw_code f9ba_eq ?_
  refine aw_reg ?_
  obtain ⟨H1_, hH1_⟩ : ∃ x : Heap, x = H.push ⟨[Value.int .i64 op, .int .i64 rd, .int .i64 ra, .int .i64 rb, .int .u32 im], 24, false⟩ := ⟨_, rfl⟩
  have nH1_ : H1_.n = H.n + 1 := by rw [hH1_]; rfl
  refine aops_val 1 (.pointer (some ⟨H.n, 0, none⟩)) H1_ (by kernel_rfl) (by kernel_rfl) (by kernel_rfl) ((by kernel_rfl : _ = some (Res.val (.pointer (some ⟨H.n, 0, none⟩)), H.push ⟨[Value.int .i64 op, .int .i64 rd, .int .i64 ra, .int .i64 rb, .int .u32 im], 24, false⟩)).trans (by rw [← hH1_])) ?_
  refine aops_go 1 60 (by kernel_rfl) ?_
  refine aops_end (by kernel_rfl) (then_normal ?_)
  refine aw_code f9bc_eq ?_
  refine aw_then ?_
  refine aw_code f9bca_eq ?_
  refine aw_reg ?_
  refine aops_go 1 60 (by kernel_rfl) ?_
  have gH1_H_n : H1_.get (H.n) = some ⟨[Value.int .i64 op, .int .i64 rd, .int .i64 ra, .int .i64 rb, .int .u32 im], 24, false⟩ := by rw [hH1_]; exact (Heap.get_push _ _ _).trans (if_pos rfl)
  refine aops_val 4 (.int .i64 op) H1_ (by kernel_rfl) (by kernel_rfl) (by kernel_rfl) ((by kernel_rfl : _ = val (aload T14 3 (.pointer (some ⟨H.n, 0, none⟩)) H1_) H1_).trans (val_of ((aload_at gH1_H_n).trans (by kernel_rfl)))) ?_
  refine aops_go 2 60 (by kernel_rfl) ?_
  refine aops_val 7 (.int .i64 rd) H1_ (by kernel_rfl) (by kernel_rfl) (by kernel_rfl) ((by kernel_rfl : _ = val (aload T14 3 (.pointer (some ⟨H.n, 1, none⟩)) H1_) H1_).trans (val_of ((aload_at gH1_H_n).trans (by kernel_rfl)))) ?_
  refine aops_go 2 60 (by kernel_rfl) ?_
  refine aops_val 10 (.int .i64 ra) H1_ (by kernel_rfl) (by kernel_rfl) (by kernel_rfl) ((by kernel_rfl : _ = val (aload T14 3 (.pointer (some ⟨H.n, 2, none⟩)) H1_) H1_).trans (val_of ((aload_at gH1_H_n).trans (by kernel_rfl)))) ?_
  refine aops_go 2 60 (by kernel_rfl) ?_
  refine aops_val 13 (.int .i64 rb) H1_ (by kernel_rfl) (by kernel_rfl) (by kernel_rfl) ((by kernel_rfl : _ = val (aload T14 3 (.pointer (some ⟨H.n, 3, none⟩)) H1_) H1_).trans (val_of ((aload_at gH1_H_n).trans (by kernel_rfl)))) ?_
  refine aops_go 2 60 (by kernel_rfl) ?_
  refine aops_val 16 (.int .u32 im) H1_ (by kernel_rfl) (by kernel_rfl) (by kernel_rfl) ((by kernel_rfl : _ = val (aload T14 22 (.pointer (some ⟨H.n, 4, none⟩)) H1_) H1_).trans (val_of ((aload_at gH1_H_n).trans (by kernel_rfl)))) ?_
  refine aops_go 2 60 (by kernel_rfl) ?_
  refine aops_val 19 (.int .u32 im) H1_ (by kernel_rfl) (by kernel_rfl) (by kernel_rfl) ((by kernel_rfl : _ = val (aload T14 22 (.pointer (some ⟨H.n, 4, none⟩)) H1_) H1_).trans (val_of ((aload_at gH1_H_n).trans (by kernel_rfl)))) ?_
  refine aops_go 3 60 (by kernel_rfl) ?_
  refine aops_val 23 (.int .u32 im) H1_ (by kernel_rfl) (by kernel_rfl) (by kernel_rfl) ((by kernel_rfl : _ = val (aload T14 22 (.pointer (some ⟨H.n, 4, none⟩)) H1_) H1_).trans (val_of ((aload_at gH1_H_n).trans (by kernel_rfl)))) ?_
  refine aops_go 3 60 (by kernel_rfl) ?_
  refine aops_val 27 (.int .u32 im) H1_ (by kernel_rfl) (by kernel_rfl) (by kernel_rfl) ((by kernel_rfl : _ = val (aload T14 22 (.pointer (some ⟨H.n, 4, none⟩)) H1_) H1_).trans (val_of ((aload_at gH1_H_n).trans (by kernel_rfl)))) ?_
  refine aops_go 2 60 (by kernel_rfl) ?_
  obtain ⟨H2_, hH2_⟩ : ∃ x : Heap, x = H1_.push ⟨[Value.int .u8 (IntKind.u8.wrap op), .int .u8 (IntKind.u8.wrap rd), .int .u8 (IntKind.u8.wrap ra), .int .u8 (IntKind.u8.wrap rb), .int .u8 (IntKind.u8.wrap im), .int .u8 (IntKind.u8.wrap (Int.fdiv im 256)), .int .u8 (IntKind.u8.wrap (Int.fdiv im 65536)), .int .u8 (IntKind.u8.wrap (Int.fdiv im 16777216))], 5, false⟩ := ⟨_, rfl⟩
  have nH2_ : H2_.n = H1_.n + 1 := by rw [hH2_]; rfl
  refine aops_val 30 (.slice (some ⟨H1_.n, 0, none⟩) 8 8) H2_ (by kernel_rfl) (by kernel_rfl) (by kernel_rfl) ((by kernel_rfl : _ = some (Res.val (.slice (some ⟨H1_.n, 0, none⟩) 8 8), H1_.push ⟨[Value.int .u8 (IntKind.u8.wrap op), .int .u8 (IntKind.u8.wrap rd), .int .u8 (IntKind.u8.wrap ra), .int .u8 (IntKind.u8.wrap rb), .int .u8 (IntKind.u8.wrap im), .int .u8 (IntKind.u8.wrap (Int.fdiv im 256)), .int .u8 (IntKind.u8.wrap (Int.fdiv im 65536)), .int .u8 (IntKind.u8.wrap (Int.fdiv im 16777216))], 5, false⟩)).trans (by rw [← hH2_])) ?_
  refine aops_go 1 60 (by kernel_rfl) ?_
  refine aops_end (by kernel_rfl) (then_normal ?_)
  refine aw_ret (bodyQ_ret_to (.slice (some ⟨H1_.n, 0, none⟩) 8 8) H2_ (by kernel_rfl) (by kernel_rfl) ?_)
  have gH2_H1__n : H2_.get (H1_.n) = some ⟨[Value.int .u8 (IntKind.u8.wrap op), .int .u8 (IntKind.u8.wrap rd), .int .u8 (IntKind.u8.wrap ra), .int .u8 (IntKind.u8.wrap rb), .int .u8 (IntKind.u8.wrap im), .int .u8 (IntKind.u8.wrap (Int.fdiv im 256)), .int .u8 (IntKind.u8.wrap (Int.fdiv im 65536)), .int .u8 (IntKind.u8.wrap (Int.fdiv im 16777216))], 5, false⟩ := by rw [hH2_]; exact (Heap.get_push _ _ _).trans (if_pos rfl)
  exact ⟨H1_.n, rfl, gH2_H1__n, by omega, by omega, (show Up H.n H H2_ from hH2_ ▸ Up.push (by omega) ((show Up H.n H H1_ from hH1_ ▸ Up.push (by omega) (Up.refl _) _)) _)⟩
end E
noncomputable def f11b : Code := Tryd.f11.body.getD .skip
noncomputable def f11ba : Code := cl f11b
noncomputable def f11bao : Array Oper := opsOf f11ba
noncomputable def f11bc : Code := cr f11b
noncomputable def f11bca : Code := cl f11bc
noncomputable def f11bcao : Array Oper := opsOf f11bca
noncomputable def f11bcc : Code := cr f11bc
noncomputable def f11bcca : Code := cl f11bcc
noncomputable def f11bccao : Array Oper := opsOf f11bcca
noncomputable def f11bccc : Code := cr f11bcc
noncomputable def f11bccca : Code := cl f11bccc
noncomputable def f11bcccao : Array Oper := opsOf f11bccca
theorem f11ba_eq : f11ba = .region 0 f11bao false := by kernel_rfl
theorem f11bca_eq : f11bca = .region 1 f11bcao false := by kernel_rfl
theorem f11bcca_eq : f11bcca = .region 2 f11bccao false := by kernel_rfl
theorem f11bccca_eq : f11bccca = .region 3 f11bcccao false := by kernel_rfl
theorem f11bccc_eq : f11bccc = .seq f11bccca .ret := by kernel_rfl
theorem f11bcc_eq : f11bcc = .seq f11bcca f11bccc := by kernel_rfl
theorem f11bc_eq : f11bc = .seq f11bca f11bcc := by kernel_rfl
theorem f11b_eq : f11b = .seq f11ba f11bc := by kernel_rfl
theorem f11_body : Tryd.f11.body = some f11b := by kernel_rfl
theorem f11_fn : T14.fn 11 = some Tryd.f11 := by kernel_rfl
theorem sized_at {H : Heap} {pt : Option Addr} {cap : Nat} {l : List Int} (hB : Byts H (.slice pt l.length cap) l) : ACall Tryd.prog T14 11 #[.slice pt l.length cap, .int .i64 8] H fun r H' => ∃ l', r = .slice (some ⟨H.n, 0, none⟩) 8 8 ∧ Byts H' (.slice (some ⟨H.n, 0, none⟩) 8 8) l' ∧ Up H.n H H' := by
  refine acall_of' 12 (initTm 0 #[(.slice pt l.length cap), .int .i64 8]) rfl f11_fn f11_body rfl rfl ?_
  refine aw_code f11b_eq ?_
  refine aw_then ?_
  refine aw_code f11ba_eq ?_
  refine aw_reg ?_
  refine aops_go 1 60 (by kernel_rfl) ?_
  refine aops_end (by kernel_rfl) (then_normal ?_)
  refine aw_code f11bc_eq ?_
  refine aw_then ?_
  refine aw_code f11bca_eq ?_
  refine aw_reg ?_
  refine aops_go 1 60 (by kernel_rfl) ?_
  obtain ⟨H1_, hH1_⟩ : ∃ x : Heap, x = H.push ⟨List.replicate 8 (.int .u8 0), 5, false⟩ := ⟨_, rfl⟩
  have nH1_ : H1_.n = H.n + 1 := by rw [hH1_]; rfl
  refine aops_val 7 (.slice (some ⟨H.n, 0, none⟩) 8 8) H1_ (by kernel_rfl) (by kernel_rfl) (by kernel_rfl) ((by kernel_rfl : _ = val2 (amakeSlice T14 28 (.int .i64 (Int.ofNat 8)) (.int .i64 (Int.ofNat 8)) H)).trans (by rw [amake_bytes 8 (by kernel_rfl) (by kernel_rfl) (by kernel_rfl) (by kernel_rfl) (by omega), ← hH1_]; rfl)) ?_
  refine aops_go 1 60 (by kernel_rfl) ?_
  refine aops_end (by kernel_rfl) (then_normal ?_)
  refine aw_code f11bcc_eq ?_
  refine aw_then ?_
  refine aw_code f11bcca_eq ?_
  refine aw_reg ?_
  refine aops_go 2 60 (by kernel_rfl) ?_
  have gH1_H_n : H1_.get (H.n) = some ⟨(List.replicate 8 (.int .u8 0)), 5, false⟩ := by rw [hH1_]; exact (Heap.get_push _ _ _).trans (if_pos rfl)
  obtain ⟨l', H2_, hcp, hB', hl', nH2_, fH2_⟩ := acopy_byts (T := T14) (t := 28) (e := 5) (c := 8) (by kernel_rfl) (by kernel_rfl) (hB.keep (by omega) (fun b hb => by rw [hH1_, Heap.get_push, if_neg (by omega)])) gH1_H_n (by omega)
  refine aops_val 10 (.int .i64 (Int.ofNat (Nat.min l.length 8))) H2_ (by kernel_rfl) (by kernel_rfl) (by kernel_rfl) ((by kernel_rfl : _ = val2 (acopy T14 28 (.slice (some ⟨H.n, 0, none⟩) 8 8) ((.slice pt l.length cap)) H1_)).trans (by rw [hcp]; rfl)) ?_
  refine aops_end (by kernel_rfl) (then_normal ?_)
  refine aw_code f11bccc_eq ?_
  refine aw_then ?_
  refine aw_code f11bccca_eq ?_
  refine aw_reg ?_
  refine aops_go 2 60 (by kernel_rfl) ?_
  refine aops_end (by kernel_rfl) (then_normal ?_)
  refine aw_ret (bodyQ_ret_to (.slice (some ⟨H.n, 0, none⟩) 8 8) H2_ (by kernel_rfl) (by kernel_rfl) ?_)
  exact ⟨l', rfl, hB', by omega, fun b hb => by rw [fH2_ b (by omega), hH1_, Heap.get_push, if_neg (by omega)]⟩
theorem sized_any {H : Heap} {v : Value} {l : List Int} (hB : Byts H v l) : ACall Tryd.prog T14 11 #[v, .int .i64 8] H fun r H' => ∃ l', r = .slice (some ⟨H.n, 0, none⟩) 8 8 ∧ Byts H' (.slice (some ⟨H.n, 0, none⟩) 8 8) l' ∧ Up H.n H H' := by
  obtain ⟨pt, cap, rfl⟩ := hB.len
  exact sized_at hB
noncomputable def f4b : Code := Tryd.f4.body.getD .skip
noncomputable def f4ba : Code := cl f4b
noncomputable def f4bao : Array Oper := opsOf f4ba
noncomputable def f4bc : Code := cr f4b
noncomputable def f4bca : Code := cl f4bc
noncomputable def f4bcao : Array Oper := opsOf f4bca
theorem f4ba_eq : f4ba = .region 0 f4bao false := by kernel_rfl
theorem f4bca_eq : f4bca = .region 1 f4bcao false := by kernel_rfl
theorem f4bc_eq : f4bc = .seq f4bca .ret := by kernel_rfl
theorem f4b_eq : f4b = .seq f4ba f4bc := by kernel_rfl
theorem f4_body : Tryd.f4.body = some f4b := by kernel_rfl
theorem f4_fn : T14.fn 4 = some Tryd.f4 := by kernel_rfl
theorem tells_at {op rd ra rb im : Int} {H : Heap} {pt : Option Addr} {cap : Nat} {l : List Int} (hI : insB op rd ra rb im = true) (hu : u32B im = true) (hB : Byts H (.slice pt l.length cap) l) : ACall Tryd.prog T14 4 #[.agg #[.int .i64 op, .int .i64 rd, .int .i64 ra, .int .i64 rb, .int .u32 im], .slice pt l.length cap] H fun r H' => r = .bool true := by
  refine acall_of' 24 (initTm 0 #[.agg #[.int .i64 op, .int .i64 rd, .int .i64 ra, .int .i64 rb, .int .u32 im], (.slice pt l.length cap)]) rfl f4_fn f4_body rfl rfl ?_
  refine aw_code f4b_eq ?_
  refine aw_then ?_
  refine aw_code f4ba_eq ?_
  refine aw_reg ?_
  obtain ⟨H1_, hH1_⟩ : ∃ x : Heap, x = H.push ⟨[Value.int .i64 op, .int .i64 rd, .int .i64 ra, .int .i64 rb, .int .u32 im], 24, false⟩ := ⟨_, rfl⟩
  have nH1_ : H1_.n = H.n + 1 := by rw [hH1_]; rfl
  refine aops_val 2 (.pointer (some ⟨H.n, 0, none⟩)) H1_ (by kernel_rfl) (by kernel_rfl) (by kernel_rfl) ((by kernel_rfl : _ = some (Res.val (.pointer (some ⟨H.n, 0, none⟩)), H.push ⟨[Value.int .i64 op, .int .i64 rd, .int .i64 ra, .int .i64 rb, .int .u32 im], 24, false⟩)).trans (by rw [← hH1_])) ?_
  refine aops_go 1 60 (by kernel_rfl) ?_
  refine aops_end (by kernel_rfl) (then_normal ?_)
  refine aw_code f4bc_eq ?_
  refine aw_then ?_
  refine aw_code f4bca_eq ?_
  refine aw_reg ?_
  have gH1_H_n : H1_.get (H.n) = some ⟨[Value.int .i64 op, .int .i64 rd, .int .i64 ra, .int .i64 rb, .int .u32 im], 24, false⟩ := by rw [hH1_]; exact (Heap.get_push _ _ _).trans (if_pos rfl)
  refine aops_val 5 (.agg #[.int .i64 op, .int .i64 rd, .int .i64 ra, .int .i64 rb, .int .u32 im]) H1_ (by kernel_rfl) (by kernel_rfl) (by kernel_rfl) ((by kernel_rfl : _ = val (aload T14 24 (.pointer (some ⟨H.n, 0, none⟩)) H1_) H1_).trans (val_of ((aload_at gH1_H_n).trans (by kernel_rfl)))) ?_
  refine aops_ask 6 (.bool true) 7 #[.agg #[.int .i64 op, .int .i64 rd, .int .i64 ra, .int .i64 rb, .int .u32 im]] (by kernel_rfl) (by kernel_rfl) (by kernel_rfl) (by kernel_rfl) (orc7 op rd ra rb im hu) ?_
  refine aops_go 1 60 (by kernel_rfl) ?_
  refine aops_val 8 (.agg #[.int .i64 op, .int .i64 rd, .int .i64 ra, .int .i64 rb, .int .u32 im]) H1_ (by kernel_rfl) (by kernel_rfl) (by kernel_rfl) ((by kernel_rfl : _ = val (aload T14 24 (.pointer (some ⟨H.n, 0, none⟩)) H1_) H1_).trans (val_of ((aload_at gH1_H_n).trans (by kernel_rfl)))) ?_
  refine aops_ask 9 (.agg #[.int .i64 (op % 20), .int .i64 (pick0 (rdB (op % 20)) (rd % 16)), .int .i64 (pick0 (raB (op % 20)) (ra % 16)), .int .i64 (pick0 (rbB (op % 20)) (rb % 16)), .int .u32 (pick0 (imB (op % 20)) im)]) 6 #[.agg #[.int .i64 op, .int .i64 rd, .int .i64 ra, .int .i64 rb, .int .u32 im]] (by kernel_rfl) (by kernel_rfl) (by kernel_rfl) (by kernel_rfl) (orc6 op rd ra rb im hI) ?_
  refine aops_ask 10 (.bool true) 7 #[.agg #[.int .i64 (op % 20), .int .i64 (pick0 (rdB (op % 20)) (rd % 16)), .int .i64 (pick0 (raB (op % 20)) (ra % 16)), .int .i64 (pick0 (rbB (op % 20)) (rb % 16)), .int .u32 (pick0 (imB (op % 20)) im)]] (by kernel_rfl) (by kernel_rfl) (by kernel_rfl) (by kernel_rfl) (orc7 (op % 20) (pick0 (rdB (op % 20)) (rd % 16)) (pick0 (raB (op % 20)) (ra % 16)) (pick0 (rbB (op % 20)) (rb % 16)) (pick0 (imB (op % 20)) im) (pick0_u32 _ hu)) ?_
  refine aops_go 3 60 (by kernel_rfl) ?_
  refine aops_call_to 14 8 #[(.slice pt l.length cap)] H1_ (by kernel_rfl) (by kernel_rfl) (fun v => (by kernel_rfl)) (by kernel_rfl) (by kernel_rfl) (reads_any (hB.keep (by omega) (fun b hb => by rw [hH1_, Heap.get_push, if_neg (by omega)]))) ?_
  rintro _ H2_ ⟨rfl, uH2_⟩
  have nH2_ := uH2_.n
  refine aops_go 3 60 (by kernel_rfl) ?_
  refine aops_call_to 18 11 #[(.slice pt l.length cap), .int .i64 8] H2_ (by kernel_rfl) (by kernel_rfl) (fun v => (by kernel_rfl)) (by kernel_rfl) (by kernel_rfl) (sized_any (hB.keep (by omega) (fun b hb => by rw [uH2_.get _ (by omega), hH1_, Heap.get_push, if_neg (by omega)]))) ?_
  rintro _ H3_ ⟨l', rfl, hZ, uH3_⟩
  have nH3_ := uH3_.n
  refine aops_call_to 19 8 #[.slice (some ⟨H2_.n, 0, none⟩) 8 8] H3_ (by kernel_rfl) (by kernel_rfl) (fun v => (by kernel_rfl)) (by kernel_rfl) (by kernel_rfl) (reads_any hZ) ?_
  rintro _ H4_ ⟨rfl, uH4_⟩
  have nH4_ := uH4_.n
  refine aops_go 2 60 (by kernel_rfl) ?_
  refine aops_ask 22 (.bool true) 10 #[] (by kernel_rfl) (by kernel_rfl) (by kernel_rfl) (by kernel_rfl) (by kernel_rfl) ?_
  refine aops_go 2 60 (by kernel_rfl) ?_
  refine aops_end (by kernel_rfl) (then_normal ?_)
  refine aw_ret (bodyQ_ret_to (.bool true) H4_ (by kernel_rfl) (by kernel_rfl) ?_)
  rfl
theorem tells_run {op rd ra rb im : Int} {H : Heap} {v : Value} {l : List Int} (hI : insB op rd ra rb im = true) (hB : Byts H v l) : ACall Tryd.prog T14 4 #[.agg #[.int .i64 op, .int .i64 rd, .int .i64 ra, .int .i64 rb, .int .u32 im], v] H fun r H' => r = .bool true := by
  obtain ⟨pt, cap, rfl⟩ := hB.len
  exact tells_at hI (insB_of hI).2.2.2.2 hB
noncomputable def f3b : Code := Tryd.f3.body.getD .skip
noncomputable def f3ba : Code := cl f3b
noncomputable def f3bao : Array Oper := opsOf f3ba
noncomputable def f3bc : Code := cr f3b
noncomputable def f3bca : Code := cl f3bc
noncomputable def f3bcaa : Code := cl f3bca
noncomputable def f3bcaao : Array Oper := opsOf f3bcaa
noncomputable def f3bcac : Code := cr f3bca
noncomputable def f3bcaca : Code := cl f3bcac
noncomputable def f3bcacaa : Code := cl f3bcaca
noncomputable def f3bcacaaa : Code := cl f3bcacaa
noncomputable def f3bcacaaaa : Code := cl f3bcacaaa
noncomputable def f3bcacaaaao : Array Oper := opsOf f3bcacaaaa
noncomputable def f3bcacaaac : Code := cr f3bcacaaa
noncomputable def f3bcacaac : Code := cr f3bcacaa
noncomputable def f3bcacaaca : Code := cl f3bcacaac
noncomputable def f3bcacaacaa : Code := cl f3bcacaaca
noncomputable def f3bcacaacaaa : Code := cl f3bcacaacaa
noncomputable def f3bcacaacaaao : Array Oper := opsOf f3bcacaacaaa
noncomputable def f3bcacaacaac : Code := cr f3bcacaacaa
noncomputable def f3bcacaacaaca : Code := cl f3bcacaacaac
noncomputable def f3bcacaacaacaa : Code := cl f3bcacaacaaca
noncomputable def f3bcacaacaacaaa : Code := cl f3bcacaacaacaa
noncomputable def f3bcacaacaacaaaa : Code := cl f3bcacaacaacaaa
noncomputable def f3bcacaacaacaaaao : Array Oper := opsOf f3bcacaacaacaaaa
noncomputable def f3bcacaacaacaaac : Code := cr f3bcacaacaacaaa
noncomputable def f3bcacaacaacaac : Code := cr f3bcacaacaacaa
noncomputable def f3bcacaacaacaaca : Code := cl f3bcacaacaacaac
noncomputable def f3bcacaacaacaacaa : Code := cl f3bcacaacaacaaca
noncomputable def f3bcacaacaacaacaaa : Code := cl f3bcacaacaacaacaa
noncomputable def f3bcacaacaacaacaaao : Array Oper := opsOf f3bcacaacaacaacaaa
noncomputable def f3bcacaacaacaacaac : Code := cr f3bcacaacaacaacaa
noncomputable def f3bcacaacaacaacaaca : Code := cl f3bcacaacaacaacaac
noncomputable def f3bcacaacaacaacaacaa : Code := cl f3bcacaacaacaacaaca
noncomputable def f3bcacaacaacaacaacaao : Array Oper := opsOf f3bcacaacaacaacaacaa
noncomputable def f3bcacaacaacaacaacac : Code := cr f3bcacaacaacaacaaca
noncomputable def f3bcacaacaacaacaacaca : Code := cl f3bcacaacaacaacaacac
noncomputable def f3bcacaacaacaacaacacaa : Code := cl f3bcacaacaacaacaacaca
noncomputable def f3bcacaacaacaacaacacaao : Array Oper := opsOf f3bcacaacaacaacaacacaa
noncomputable def f3bcacaacaacaacaacacac : Code := cr f3bcacaacaacaacaacaca
noncomputable def f3bcacaacaacaacaacacaca : Code := cl f3bcacaacaacaacaacacac
noncomputable def f3bcacaacaacaacaacacacao : Array Oper := opsOf f3bcacaacaacaacaacacaca
noncomputable def f3bcacaacaacaacaacacacc : Code := cr f3bcacaacaacaacaacacac
noncomputable def f3bcacaacaacaacaacacacca : Code := cl f3bcacaacaacaacaacacacc
noncomputable def f3bcacaacaacaacaacacaccao : Array Oper := opsOf f3bcacaacaacaacaacacacca
noncomputable def f3bcacaacaacaacaacacaccc : Code := cr f3bcacaacaacaacaacacacc
noncomputable def f3bcacaacaacaacaacacaccca : Code := cl f3bcacaacaacaacaacacaccc
noncomputable def f3bcacaacaacaacaacacacccao : Array Oper := opsOf f3bcacaacaacaacaacacaccca
noncomputable def f3bcacaacaacaacaacacacccc : Code := cr f3bcacaacaacaacaacacaccc
noncomputable def f3bcacaacaacaacaacacacccca : Code := cl f3bcacaacaacaacaacacacccc
noncomputable def f3bcacaacaacaacaacacaccccao : Array Oper := opsOf f3bcacaacaacaacaacacacccca
noncomputable def f3bcacaacaacaacaacacaccccc : Code := cr f3bcacaacaacaacaacacacccc
noncomputable def f3bcacaacaacaacaacacaccccca : Code := cl f3bcacaacaacaacaacacaccccc
noncomputable def f3bcacaacaacaacaacacacccccao : Array Oper := opsOf f3bcacaacaacaacaacacaccccca
noncomputable def f3bcacaacaacaacaacacacccccc : Code := cr f3bcacaacaacaacaacacaccccc
noncomputable def f3bcacaacaacaacaacacacccccca : Code := cl f3bcacaacaacaacaacacacccccc
noncomputable def f3bcacaacaacaacaacacaccccccao : Array Oper := opsOf f3bcacaacaacaacaacacacccccca
noncomputable def f3bcacaacaacaacaacacaccccccc : Code := cr f3bcacaacaacaacaacacacccccc
noncomputable def f3bcacaacaacaacaacacaccccccca : Code := cl f3bcacaacaacaacaacacaccccccc
noncomputable def f3bcacaacaacaacaacacacccccccao : Array Oper := opsOf f3bcacaacaacaacaacacaccccccca
noncomputable def f3bcacaacaacaacaacacacccccccc : Code := cr f3bcacaacaacaacaacacaccccccc
noncomputable def f3bcacaacaacaacaacacacccccccca : Code := cl f3bcacaacaacaacaacacacccccccc
noncomputable def f3bcacaacaacaacaacacaccccccccao : Array Oper := opsOf f3bcacaacaacaacaacacacccccccca
noncomputable def f3bcacaacaacaacaacacaccccccccc : Code := cr f3bcacaacaacaacaacacacccccccc
noncomputable def f3bcacaacaacaacaacacaccccccccca : Code := cl f3bcacaacaacaacaacacaccccccccc
noncomputable def f3bcacaacaacaacaacacacccccccccao : Array Oper := opsOf f3bcacaacaacaacaacacaccccccccca
noncomputable def f3bcacaacaacaacaacacacccccccccc : Code := cr f3bcacaacaacaacaacacaccccccccc
noncomputable def f3bcacaacaacaacaacacacccccccccca : Code := cl f3bcacaacaacaacaacacacccccccccc
noncomputable def f3bcacaacaacaacaacacaccccccccccao : Array Oper := opsOf f3bcacaacaacaacaacacacccccccccca
noncomputable def f3bcacaacaacaacaacacaccccccccccc : Code := cr f3bcacaacaacaacaacacacccccccccc
noncomputable def f3bcacaacaacaacaacacaccccccccccca : Code := cl f3bcacaacaacaacaacacaccccccccccc
noncomputable def f3bcacaacaacaacaacacacccccccccccao : Array Oper := opsOf f3bcacaacaacaacaacacaccccccccccca
noncomputable def f3bcacaacaacaacaacacacccccccccccc : Code := cr f3bcacaacaacaacaacacaccccccccccc
noncomputable def f3bcacaacaacaacaacacacccccccccccca : Code := cl f3bcacaacaacaacaacacacccccccccccc
noncomputable def f3bcacaacaacaacaacacaccccccccccccao : Array Oper := opsOf f3bcacaacaacaacaacacacccccccccccca
noncomputable def f3bcacaacaacaacaacacaccccccccccccc : Code := cr f3bcacaacaacaacaacacacccccccccccc
noncomputable def f3bcacaacaacaacaacacaccccccccccccca : Code := cl f3bcacaacaacaacaacacaccccccccccccc
noncomputable def f3bcacaacaacaacaacacacccccccccccccao : Array Oper := opsOf f3bcacaacaacaacaacacaccccccccccccca
noncomputable def f3bcacaacaacaacaacacacccccccccccccc : Code := cr f3bcacaacaacaacaacacaccccccccccccc
noncomputable def f3bcacaacaacaacaacacacccccccccccccca : Code := cl f3bcacaacaacaacaacacacccccccccccccc
noncomputable def f3bcacaacaacaacaacacaccccccccccccccao : Array Oper := opsOf f3bcacaacaacaacaacacacccccccccccccca
noncomputable def f3bcacaacaacaacaacacaccccccccccccccc : Code := cr f3bcacaacaacaacaacacacccccccccccccc
noncomputable def f3bcacaacaacaacaacacaccccccccccccccca : Code := cl f3bcacaacaacaacaacacaccccccccccccccc
noncomputable def f3bcacaacaacaacaacacacccccccccccccccao : Array Oper := opsOf f3bcacaacaacaacaacacaccccccccccccccca
noncomputable def f3bcacaacaacaacaacacacccccccccccccccc : Code := cr f3bcacaacaacaacaacacaccccccccccccccc
noncomputable def f3bcacaacaacaacaacacacccccccccccccccca : Code := cl f3bcacaacaacaacaacacacccccccccccccccc
noncomputable def f3bcacaacaacaacaacacaccccccccccccccccao : Array Oper := opsOf f3bcacaacaacaacaacacacccccccccccccccca
noncomputable def f3bcacaacaacaacaacacaccccccccccccccccc : Code := cr f3bcacaacaacaacaacacacccccccccccccccc
noncomputable def f3bcacaacaacaacaacacaccccccccccccccccca : Code := cl f3bcacaacaacaacaacacaccccccccccccccccc
noncomputable def f3bcacaacaacaacaacacacccccccccccccccccao : Array Oper := opsOf f3bcacaacaacaacaacacaccccccccccccccccca
noncomputable def f3bcacaacaacaacaacc : Code := cr f3bcacaacaacaacaac
noncomputable def f3bcacaacaacaacaacca : Code := cl f3bcacaacaacaacaacc
noncomputable def f3bcacaacaacaacaaccao : Array Oper := opsOf f3bcacaacaacaacaacca
noncomputable def f3bcacaacaacaacaaccc : Code := cr f3bcacaacaacaacaacc
noncomputable def f3bcacaacaacaacaaccca : Code := cl f3bcacaacaacaacaaccc
noncomputable def f3bcacaacaacaacaacccaa : Code := cl f3bcacaacaacaacaaccca
noncomputable def f3bcacaacaacaacaacccaao : Array Oper := opsOf f3bcacaacaacaacaacccaa
noncomputable def f3bcacaacaacaacc : Code := cr f3bcacaacaacaac
noncomputable def f3bcacaacaacaacco : Array Oper := opsOf f3bcacaacaacaacc
noncomputable def f3bcacaacc : Code := cr f3bcacaac
noncomputable def f3bcacaacco : Array Oper := opsOf f3bcacaacc
noncomputable def f3bcc : Code := cr f3bc
noncomputable def f3bcca : Code := cl f3bcc
noncomputable def f3bccao : Array Oper := opsOf f3bcca
theorem f3ba_eq : f3ba = .region 0 f3bao false := by kernel_rfl
theorem f3bcaa_eq : f3bcaa = .region 1 f3bcaao false := by kernel_rfl
theorem f3bcacaaaa_eq : f3bcacaaaa = .region 2 f3bcacaaaao false := by kernel_rfl
theorem f3bcacaaac_eq : f3bcacaaac = .cond (cop f3bcacaaac) .skip (.exit 0) := by kernel_rfl
theorem f3bcacaaa_eq : f3bcacaaa = .seq f3bcacaaaa f3bcacaaac := by kernel_rfl
theorem f3bcacaacaaa_eq : f3bcacaacaaa = .region 4 f3bcacaacaaao false := by kernel_rfl
theorem f3bcacaacaacaaaa_eq : f3bcacaacaacaaaa = .region 5 f3bcacaacaacaaaao false := by kernel_rfl
theorem f3bcacaacaacaaac_eq : f3bcacaacaacaaac = .cond (cop f3bcacaacaacaaac) .skip (.exit 2) := by kernel_rfl
theorem f3bcacaacaacaaa_eq : f3bcacaacaacaaa = .seq f3bcacaacaacaaaa f3bcacaacaacaaac := by kernel_rfl
theorem f3bcacaacaacaacaaa_eq : f3bcacaacaacaacaaa = .region 7 f3bcacaacaacaacaaao false := by kernel_rfl
theorem f3bcacaacaacaacaacaa_eq : f3bcacaacaacaacaacaa = .region 8 f3bcacaacaacaacaacaao false := by kernel_rfl
theorem f3bcacaacaacaacaacacaa_eq : f3bcacaacaacaacaacacaa = .region 9 f3bcacaacaacaacaacacaao false := by kernel_rfl
theorem f3bcacaacaacaacaacacaca_eq : f3bcacaacaacaacaacacaca = .region 10 f3bcacaacaacaacaacacacao false := by kernel_rfl
theorem f3bcacaacaacaacaacacacca_eq : f3bcacaacaacaacaacacacca = .region 11 f3bcacaacaacaacaacacaccao false := by kernel_rfl
theorem f3bcacaacaacaacaacacaccca_eq : f3bcacaacaacaacaacacaccca = .region 12 f3bcacaacaacaacaacacacccao false := by kernel_rfl
theorem f3bcacaacaacaacaacacacccca_eq : f3bcacaacaacaacaacacacccca = .region 13 f3bcacaacaacaacaacacaccccao false := by kernel_rfl
theorem f3bcacaacaacaacaacacaccccca_eq : f3bcacaacaacaacaacacaccccca = .region 14 f3bcacaacaacaacaacacacccccao false := by kernel_rfl
theorem f3bcacaacaacaacaacacacccccca_eq : f3bcacaacaacaacaacacacccccca = .region 15 f3bcacaacaacaacaacacaccccccao false := by kernel_rfl
theorem f3bcacaacaacaacaacacaccccccca_eq : f3bcacaacaacaacaacacaccccccca = .region 16 f3bcacaacaacaacaacacacccccccao false := by kernel_rfl
theorem f3bcacaacaacaacaacacacccccccca_eq : f3bcacaacaacaacaacacacccccccca = .region 17 f3bcacaacaacaacaacacaccccccccao false := by kernel_rfl
theorem f3bcacaacaacaacaacacaccccccccca_eq : f3bcacaacaacaacaacacaccccccccca = .region 18 f3bcacaacaacaacaacacacccccccccao false := by kernel_rfl
theorem f3bcacaacaacaacaacacacccccccccca_eq : f3bcacaacaacaacaacacacccccccccca = .region 19 f3bcacaacaacaacaacacaccccccccccao false := by kernel_rfl
theorem f3bcacaacaacaacaacacaccccccccccca_eq : f3bcacaacaacaacaacacaccccccccccca = .region 20 f3bcacaacaacaacaacacacccccccccccao false := by kernel_rfl
theorem f3bcacaacaacaacaacacacccccccccccca_eq : f3bcacaacaacaacaacacacccccccccccca = .region 21 f3bcacaacaacaacaacacaccccccccccccao false := by kernel_rfl
theorem f3bcacaacaacaacaacacaccccccccccccca_eq : f3bcacaacaacaacaacacaccccccccccccca = .region 22 f3bcacaacaacaacaacacacccccccccccccao false := by kernel_rfl
theorem f3bcacaacaacaacaacacacccccccccccccca_eq : f3bcacaacaacaacaacacacccccccccccccca = .region 23 f3bcacaacaacaacaacacaccccccccccccccao false := by kernel_rfl
theorem f3bcacaacaacaacaacacaccccccccccccccca_eq : f3bcacaacaacaacaacacaccccccccccccccca = .region 24 f3bcacaacaacaacaacacacccccccccccccccao false := by kernel_rfl
theorem f3bcacaacaacaacaacacacccccccccccccccca_eq : f3bcacaacaacaacaacacacccccccccccccccca = .region 25 f3bcacaacaacaacaacacaccccccccccccccccao false := by kernel_rfl
theorem f3bcacaacaacaacaacacaccccccccccccccccca_eq : f3bcacaacaacaacaacacaccccccccccccccccca = .region 26 f3bcacaacaacaacaacacacccccccccccccccccao false := by kernel_rfl
theorem f3bcacaacaacaacaacacaccccccccccccccccc_eq : f3bcacaacaacaacaacacaccccccccccccccccc = .cond (cop f3bcacaacaacaacaacacaccccccccccccccccc) f3bcacaacaacaacaacacaccccccccccccccccca .skip := by kernel_rfl
theorem f3bcacaacaacaacaacacacccccccccccccccc_eq : f3bcacaacaacaacaacacacccccccccccccccc = .seq f3bcacaacaacaacaacacacccccccccccccccca f3bcacaacaacaacaacacaccccccccccccccccc := by kernel_rfl
theorem f3bcacaacaacaacaacacaccccccccccccccc_eq : f3bcacaacaacaacaacacaccccccccccccccc = .cond (cop f3bcacaacaacaacaacacaccccccccccccccc) f3bcacaacaacaacaacacaccccccccccccccca f3bcacaacaacaacaacacacccccccccccccccc := by kernel_rfl
theorem f3bcacaacaacaacaacacacccccccccccccc_eq : f3bcacaacaacaacaacacacccccccccccccc = .seq f3bcacaacaacaacaacacacccccccccccccca f3bcacaacaacaacaacacaccccccccccccccc := by kernel_rfl
theorem f3bcacaacaacaacaacacaccccccccccccc_eq : f3bcacaacaacaacaacacaccccccccccccc = .cond (cop f3bcacaacaacaacaacacaccccccccccccc) f3bcacaacaacaacaacacaccccccccccccca f3bcacaacaacaacaacacacccccccccccccc := by kernel_rfl
theorem f3bcacaacaacaacaacacacccccccccccc_eq : f3bcacaacaacaacaacacacccccccccccc = .seq f3bcacaacaacaacaacacacccccccccccca f3bcacaacaacaacaacacaccccccccccccc := by kernel_rfl
theorem f3bcacaacaacaacaacacaccccccccccc_eq : f3bcacaacaacaacaacacaccccccccccc = .cond (cop f3bcacaacaacaacaacacaccccccccccc) f3bcacaacaacaacaacacaccccccccccca f3bcacaacaacaacaacacacccccccccccc := by kernel_rfl
theorem f3bcacaacaacaacaacacacccccccccc_eq : f3bcacaacaacaacaacacacccccccccc = .seq f3bcacaacaacaacaacacacccccccccca f3bcacaacaacaacaacacaccccccccccc := by kernel_rfl
theorem f3bcacaacaacaacaacacaccccccccc_eq : f3bcacaacaacaacaacacaccccccccc = .cond (cop f3bcacaacaacaacaacacaccccccccc) f3bcacaacaacaacaacacaccccccccca f3bcacaacaacaacaacacacccccccccc := by kernel_rfl
theorem f3bcacaacaacaacaacacacccccccc_eq : f3bcacaacaacaacaacacacccccccc = .seq f3bcacaacaacaacaacacacccccccca f3bcacaacaacaacaacacaccccccccc := by kernel_rfl
theorem f3bcacaacaacaacaacacaccccccc_eq : f3bcacaacaacaacaacacaccccccc = .cond (cop f3bcacaacaacaacaacacaccccccc) f3bcacaacaacaacaacacaccccccca f3bcacaacaacaacaacacacccccccc := by kernel_rfl
theorem f3bcacaacaacaacaacacacccccc_eq : f3bcacaacaacaacaacacacccccc = .seq f3bcacaacaacaacaacacacccccca f3bcacaacaacaacaacacaccccccc := by kernel_rfl
theorem f3bcacaacaacaacaacacaccccc_eq : f3bcacaacaacaacaacacaccccc = .cond (cop f3bcacaacaacaacaacacaccccc) f3bcacaacaacaacaacacaccccca f3bcacaacaacaacaacacacccccc := by kernel_rfl
theorem f3bcacaacaacaacaacacacccc_eq : f3bcacaacaacaacaacacacccc = .seq f3bcacaacaacaacaacacacccca f3bcacaacaacaacaacacaccccc := by kernel_rfl
theorem f3bcacaacaacaacaacacaccc_eq : f3bcacaacaacaacaacacaccc = .cond (cop f3bcacaacaacaacaacacaccc) f3bcacaacaacaacaacacaccca f3bcacaacaacaacaacacacccc := by kernel_rfl
theorem f3bcacaacaacaacaacacacc_eq : f3bcacaacaacaacaacacacc = .seq f3bcacaacaacaacaacacacca f3bcacaacaacaacaacacaccc := by kernel_rfl
theorem f3bcacaacaacaacaacacac_eq : f3bcacaacaacaacaacacac = .cond (cop f3bcacaacaacaacaacacac) f3bcacaacaacaacaacacaca f3bcacaacaacaacaacacacc := by kernel_rfl
theorem f3bcacaacaacaacaacaca_eq : f3bcacaacaacaacaacaca = .seq f3bcacaacaacaacaacacaa f3bcacaacaacaacaacacac := by kernel_rfl
theorem f3bcacaacaacaacaacac_eq : f3bcacaacaacaacaacac = .block 4 f3bcacaacaacaacaacaca := by kernel_rfl
theorem f3bcacaacaacaacaaca_eq : f3bcacaacaacaacaaca = .seq f3bcacaacaacaacaacaa f3bcacaacaacaacaacac := by kernel_rfl
theorem f3bcacaacaacaacaacca_eq : f3bcacaacaacaacaacca = .region 27 f3bcacaacaacaacaaccao false := by kernel_rfl
theorem f3bcacaacaacaacaacccaa_eq : f3bcacaacaacaacaacccaa = .region 28 f3bcacaacaacaacaacccaao false := by kernel_rfl
theorem f3bcacaacaacaacaaccca_eq : f3bcacaacaacaacaaccca = .seq f3bcacaacaacaacaacccaa .ret := by kernel_rfl
theorem f3bcacaacaacaacaaccc_eq : f3bcacaacaacaacaaccc = .cond (cop f3bcacaacaacaacaaccc) f3bcacaacaacaacaaccca .skip := by kernel_rfl
theorem f3bcacaacaacaacaacc_eq : f3bcacaacaacaacaacc = .seq f3bcacaacaacaacaacca f3bcacaacaacaacaaccc := by kernel_rfl
theorem f3bcacaacaacaacaac_eq : f3bcacaacaacaacaac = .seq f3bcacaacaacaacaaca f3bcacaacaacaacaacc := by kernel_rfl
theorem f3bcacaacaacaacaa_eq : f3bcacaacaacaacaa = .seq f3bcacaacaacaacaaa f3bcacaacaacaacaac := by kernel_rfl
theorem f3bcacaacaacaaca_eq : f3bcacaacaacaaca = .block 3 f3bcacaacaacaacaa := by kernel_rfl
theorem f3bcacaacaacaacc_eq : f3bcacaacaacaacc = .region 6 f3bcacaacaacaacco false := by kernel_rfl
theorem f3bcacaacaacaac_eq : f3bcacaacaacaac = .seq f3bcacaacaacaaca f3bcacaacaacaacc := by kernel_rfl
theorem f3bcacaacaacaa_eq : f3bcacaacaacaa = .seq f3bcacaacaacaaa f3bcacaacaacaac := by kernel_rfl
theorem f3bcacaacaaca_eq : f3bcacaacaaca = .loop f3bcacaacaacaa := by kernel_rfl
theorem f3bcacaacaac_eq : f3bcacaacaac = .block 2 f3bcacaacaaca := by kernel_rfl
theorem f3bcacaacaa_eq : f3bcacaacaa = .seq f3bcacaacaaa f3bcacaacaac := by kernel_rfl
theorem f3bcacaaca_eq : f3bcacaaca = .block 1 f3bcacaacaa := by kernel_rfl
theorem f3bcacaacc_eq : f3bcacaacc = .region 3 f3bcacaacco false := by kernel_rfl
theorem f3bcacaac_eq : f3bcacaac = .seq f3bcacaaca f3bcacaacc := by kernel_rfl
theorem f3bcacaa_eq : f3bcacaa = .seq f3bcacaaa f3bcacaac := by kernel_rfl
theorem f3bcaca_eq : f3bcaca = .loop f3bcacaa := by kernel_rfl
theorem f3bcac_eq : f3bcac = .block 0 f3bcaca := by kernel_rfl
theorem f3bca_eq : f3bca = .seq f3bcaa f3bcac := by kernel_rfl
theorem f3bcca_eq : f3bcca = .region 29 f3bccao false := by kernel_rfl
theorem f3bcc_eq : f3bcc = .seq f3bcca .ret := by kernel_rfl
theorem f3bc_eq : f3bc = .seq f3bca f3bcc := by kernel_rfl
theorem f3b_eq : f3b = .seq f3ba f3bc := by kernel_rfl
theorem f3_body : Tryd.f3.body = some f3b := by kernel_rfl
theorem f3_fn : T14.fn 3 = some Tryd.f3 := by kernel_rfl
set_option maxHeartbeats 2000000 in
theorem numbers_run {H : Heap} : ACall Tryd.prog T14 3 #[] H fun r H' => r = .bool true := by
  refine acall_of' 71 (initTm 0 #[]) rfl f3_fn f3_body rfl rfl ?_
  refine aw_code f3b_eq ?_
  refine aw_then ?_
  refine aw_code f3ba_eq ?_
  refine aw_reg ?_
  refine aops_go 1 60 (by kernel_rfl) ?_
  refine aops_end (by kernel_rfl) (then_normal ?_)
  refine aw_code f3bc_eq ?_
  refine aw_then ?_
  refine aw_code f3bca_eq ?_
  refine aw_then ?_
  refine aw_code f3bcaa_eq ?_
  refine aw_reg ?_
  refine aops_go 1 60 (by kernel_rfl) ?_
  refine aops_end (by kernel_rfl) (then_normal ?_)
  refine aw_code f3bcac_eq ?_
  refine aw_block ?_
  refine aw_code f3bcaca_eq ?_
  refine aw_loop (fun m st => ∃ (op : Int) (H1 : Heap), m = (24 - op).toNat ∧ -1 ≤ op ∧ op ≤ 24 ∧ Kn st.tm [(0, .bool false), (1, .int .i64 op)] ∧ st.H = H1) 25 ⟨-1, H, by omega, by omega, by omega, ⟨by kernel_rfl, by kernel_rfl, True.intro⟩, by kernel_rfl⟩ ?_
  rintro m st ⟨op, H1, hm, hl1, hl2, hkn, hH⟩
  refine aw_kn' [(0, .bool false), (1, .int .i64 op)] hkn hH fun tm => ?_
  by_cases hk : op < 24
  · skip
    have hI : insB op 3 4 5 70000 = true := by simp only [insB, i64B, u32B, Bool.and_eq_true, decide_eq_true_eq]; omega
    have hu : u32B 70000 = true := rfl
    refine aw_code f3bcacaa_eq ?_
    refine aw_then ?_
    refine aw_code f3bcacaaa_eq ?_
    refine aw_then ?_
    refine aw_code f3bcacaaaa_eq ?_
    refine aw_reg ?_
    refine aops_go 2 60 (by kernel_rfl) ?_
    refine aops_end (by kernel_rfl) (then_normal ?_)
    refine aw_code f3bcacaaac_eq ?_
    refine aw_cond (t := true) (see_bool (by kernel_rfl) ((by simpa using hk) : ((decide ((op : Int) < 24))) = true)) ?_
    refine aw_skip (then_normal ?_)
    refine aw_code f3bcacaac_eq ?_
    refine aw_then ?_
    refine aw_code f3bcacaaca_eq ?_
    refine aw_block ?_
    refine aw_code f3bcacaacaa_eq ?_
    refine aw_then ?_
    refine aw_code f3bcacaacaaa_eq ?_
    refine aw_reg ?_
    refine aops_go 1 60 (by kernel_rfl) ?_
    refine aops_end (by kernel_rfl) (then_normal ?_)
    refine aw_code f3bcacaacaac_eq ?_
    refine aw_block ?_
    refine aw_code f3bcacaacaaca_eq ?_
    refine aw_loop_k fun K1_ hK1_ => ?_
    refine aw_code f3bcacaacaacaa_eq ?_
    refine aw_then ?_
    refine aw_code f3bcacaacaacaaa_eq ?_
    refine aw_then ?_
    refine aw_code f3bcacaacaacaaaa_eq ?_
    refine aw_reg ?_
    refine aops_go 2 60 (by kernel_rfl) ?_
    refine aops_end (by kernel_rfl) (then_normal ?_)
    refine aw_code f3bcacaacaacaaac_eq ?_
    refine aw_cond (t := true) (by kernel_rfl) ?_
    refine aw_skip (then_normal ?_)
    refine aw_code f3bcacaacaacaac_eq ?_
    refine aw_then ?_
    refine aw_code f3bcacaacaacaaca_eq ?_
    refine aw_block ?_
    refine aw_code f3bcacaacaacaacaa_eq ?_
    refine aw_then ?_
    refine aw_code f3bcacaacaacaacaaa_eq ?_
    refine aw_reg ?_
    refine aops_go 2 60 (by kernel_rfl) ?_
    obtain ⟨H1_, hH1_⟩ : ∃ x : Heap, x = H1.push ⟨[Value.int .i64 0, .int .i64 0, .int .i64 0, .int .i64 0, .int .u32 0], 24, false⟩ := ⟨_, rfl⟩
    have nH1_ : H1_.n = H1.n + 1 := by rw [hH1_]; rfl
    refine aops_val 3 (.pointer (some ⟨H1.n, 0, none⟩)) H1_ (by kernel_rfl) (by kernel_rfl) (by kernel_rfl) ((by kernel_rfl : _ = some (Res.val (.pointer (some ⟨H1.n, 0, none⟩)), H1.push ⟨[Value.int .i64 0, .int .i64 0, .int .i64 0, .int .i64 0, .int .u32 0], 24, false⟩)).trans (by rw [← hH1_])) ?_
    have gH1_H1_n : H1_.get (H1.n) = some ⟨[Value.int .i64 0, .int .i64 0, .int .i64 0, .int .i64 0, .int .u32 0], 24, false⟩ := by rw [hH1_]; exact (Heap.get_push _ _ _).trans (if_pos rfl)
    obtain ⟨H2_, hH2_⟩ : ∃ x : Heap, x = H1_.put (H1.n) ⟨[Value.int .i64 op, .int .i64 0, .int .i64 0, .int .i64 0, .int .u32 0], 24, false⟩ := ⟨_, rfl⟩
    have nH2_ : H2_.n = H1_.n := by rw [hH2_]; rfl
    refine aops_skip H2_ (by kernel_rfl) (by kernel_rfl) (by kernel_rfl) ((by kernel_rfl : _ = skp (astore T14 24 (.pointer (some ⟨H1.n, 0, none⟩)) (.agg #[.int .i64 op, .int .i64 0, .int .i64 0, .int .i64 0, .int .u32 0]) H1_)).trans (by rw [astore_to gH1_H1_n (by kernel_rfl), ← hH2_]; rfl)) ?_
    refine aops_end (by kernel_rfl) (then_normal ?_)
    refine aw_code f3bcacaacaacaacaac_eq ?_
    refine aw_then ?_
    refine aw_code f3bcacaacaacaacaaca_eq ?_
    refine aw_then ?_
    refine aw_code f3bcacaacaacaacaacaa_eq ?_
    refine aw_reg ?_
    refine aops_go 1 60 (by kernel_rfl) ?_
    refine aops_end (by kernel_rfl) (then_normal ?_)
    refine aw_code f3bcacaacaacaacaacac_eq ?_
    refine aw_block ?_
    refine aw_code f3bcacaacaacaacaacaca_eq ?_
    refine aw_then ?_
    refine aw_code f3bcacaacaacaacaacacaa_eq ?_
    refine aw_reg ?_
    refine aops_go 2 60 (by kernel_rfl) ?_
    refine aops_end (by kernel_rfl) (then_normal ?_)
    refine aw_code f3bcacaacaacaacaacacac_eq ?_
    refine aw_cond (t := false) (by kernel_rfl) ?_
    refine aw_code f3bcacaacaacaacaacacacc_eq ?_
    refine aw_then ?_
    refine aw_code f3bcacaacaacaacaacacacca_eq ?_
    refine aw_reg ?_
    refine aops_go 2 60 (by kernel_rfl) ?_
    refine aops_end (by kernel_rfl) (then_normal ?_)
    refine aw_code f3bcacaacaacaacaacacaccc_eq ?_
    refine aw_cond (t := false) (by kernel_rfl) ?_
    refine aw_code f3bcacaacaacaacaacacacccc_eq ?_
    refine aw_then ?_
    refine aw_code f3bcacaacaacaacaacacacccca_eq ?_
    refine aw_reg ?_
    refine aops_go 2 60 (by kernel_rfl) ?_
    refine aops_end (by kernel_rfl) (then_normal ?_)
    refine aw_code f3bcacaacaacaacaacacaccccc_eq ?_
    refine aw_cond (t := false) (by kernel_rfl) ?_
    refine aw_code f3bcacaacaacaacaacacacccccc_eq ?_
    refine aw_then ?_
    refine aw_code f3bcacaacaacaacaacacacccccca_eq ?_
    refine aw_reg ?_
    refine aops_go 2 60 (by kernel_rfl) ?_
    refine aops_end (by kernel_rfl) (then_normal ?_)
    refine aw_code f3bcacaacaacaacaacacaccccccc_eq ?_
    refine aw_cond (t := false) (by kernel_rfl) ?_
    refine aw_code f3bcacaacaacaacaacacacccccccc_eq ?_
    refine aw_then ?_
    refine aw_code f3bcacaacaacaacaacacacccccccca_eq ?_
    refine aw_reg ?_
    refine aops_go 2 60 (by kernel_rfl) ?_
    refine aops_end (by kernel_rfl) (then_normal ?_)
    refine aw_code f3bcacaacaacaacaacacaccccccccc_eq ?_
    refine aw_cond (t := false) (by kernel_rfl) ?_
    refine aw_code f3bcacaacaacaacaacacacccccccccc_eq ?_
    refine aw_then ?_
    refine aw_code f3bcacaacaacaacaacacacccccccccca_eq ?_
    refine aw_reg ?_
    refine aops_go 2 60 (by kernel_rfl) ?_
    refine aops_end (by kernel_rfl) (then_normal ?_)
    refine aw_code f3bcacaacaacaacaacacaccccccccccc_eq ?_
    refine aw_cond (t := false) (by kernel_rfl) ?_
    refine aw_code f3bcacaacaacaacaacacacccccccccccc_eq ?_
    refine aw_then ?_
    refine aw_code f3bcacaacaacaacaacacacccccccccccca_eq ?_
    refine aw_reg ?_
    refine aops_go 2 60 (by kernel_rfl) ?_
    refine aops_end (by kernel_rfl) (then_normal ?_)
    refine aw_code f3bcacaacaacaacaacacaccccccccccccc_eq ?_
    refine aw_cond (t := false) (by kernel_rfl) ?_
    refine aw_code f3bcacaacaacaacaacacacccccccccccccc_eq ?_
    refine aw_then ?_
    refine aw_code f3bcacaacaacaacaacacacccccccccccccca_eq ?_
    refine aw_reg ?_
    refine aops_go 2 60 (by kernel_rfl) ?_
    refine aops_end (by kernel_rfl) (then_normal ?_)
    refine aw_code f3bcacaacaacaacaacacaccccccccccccccc_eq ?_
    refine aw_cond (t := false) (by kernel_rfl) ?_
    refine aw_code f3bcacaacaacaacaacacacccccccccccccccc_eq ?_
    refine aw_then ?_
    refine aw_code f3bcacaacaacaacaacacacccccccccccccccca_eq ?_
    refine aw_reg ?_
    refine aops_go 2 60 (by kernel_rfl) ?_
    refine aops_end (by kernel_rfl) (then_normal ?_)
    refine aw_code f3bcacaacaacaacaacacaccccccccccccccccc_eq ?_
    refine aw_cond (t := false) (by kernel_rfl) ?_
    refine aw_skip (blk_normal (then_normal ?_))
    refine aw_code f3bcacaacaacaacaacc_eq ?_
    refine aw_then ?_
    refine aw_code f3bcacaacaacaacaacca_eq ?_
    refine aw_reg ?_
    have gH2_H1_n : H2_.get (H1.n) = some ⟨[Value.int .i64 op, .int .i64 0, .int .i64 0, .int .i64 0, .int .u32 0], 24, false⟩ := by rw [hH2_]; exact (Heap.get_put _ _ _ _).trans (if_pos rfl)
    refine aops_val 47 (.agg #[.int .i64 op, .int .i64 0, .int .i64 0, .int .i64 0, .int .u32 0]) H2_ (by kernel_rfl) (by kernel_rfl) (by kernel_rfl) ((by kernel_rfl : _ = val (aload T14 24 (.pointer (some ⟨H1.n, 0, none⟩)) H2_) H2_).trans (val_of ((aload_at gH2_H1_n).trans (by kernel_rfl)))) ?_
    refine aops_ask 48 (.bool true) 7 #[.agg #[.int .i64 op, .int .i64 0, .int .i64 0, .int .i64 0, .int .u32 0]] (by kernel_rfl) (by kernel_rfl) (by kernel_rfl) (by kernel_rfl) (orc7 op 0 0 0 0 (by rfl)) ?_
    refine aops_go 2 60 (by kernel_rfl) ?_
    refine aops_val 51 (.agg #[.int .i64 op, .int .i64 0, .int .i64 0, .int .i64 0, .int .u32 0]) H2_ (by kernel_rfl) (by kernel_rfl) (by kernel_rfl) ((by kernel_rfl : _ = val (aload T14 24 (.pointer (some ⟨H1.n, 0, none⟩)) H2_) H2_).trans (val_of ((aload_at gH2_H1_n).trans (by kernel_rfl)))) ?_
    refine aops_call_to 52 9 #[.agg #[.int .i64 op, .int .i64 0, .int .i64 0, .int .i64 0, .int .u32 0]] H2_ (by kernel_rfl) (by kernel_rfl) (fun v => (by kernel_rfl)) (by kernel_rfl) (by kernel_rfl) E.renc ?_
    rintro _ H3_ ⟨B1_, rfl, gB1_, hB1_, kB1_, uH3_⟩
    have nH3_ := uH3_.n
    refine aops_call_to 53 8 #[.slice (some ⟨B1_, 0, none⟩) 8 8] H3_ (by kernel_rfl) (by kernel_rfl) (fun v => (by kernel_rfl)) (by kernel_rfl) (by kernel_rfl) (reads_any (byts_enc (k := 8) gB1_ (by omega) (by omega))) ?_
    rintro _ H4_ ⟨rfl, uH4_⟩
    have nH4_ := uH4_.n
    refine aops_go 3 60 (by kernel_rfl) ?_
    have gH4_H1_n : H4_.get (H1.n) = some ⟨[Value.int .i64 op, .int .i64 0, .int .i64 0, .int .i64 0, .int .u32 0], 24, false⟩ := by rw [uH4_.get _ (by omega)]; rw [uH3_.get _ (by omega)]; exact gH2_H1_n
    refine aops_val 57 (.agg #[.int .i64 op, .int .i64 0, .int .i64 0, .int .i64 0, .int .u32 0]) H4_ (by kernel_rfl) (by kernel_rfl) (by kernel_rfl) ((by kernel_rfl : _ = val (aload T14 24 (.pointer (some ⟨H1.n, 0, none⟩)) H4_) H4_).trans (val_of ((aload_at gH4_H1_n).trans (by kernel_rfl)))) ?_
    refine aops_call_to 58 9 #[.agg #[.int .i64 op, .int .i64 0, .int .i64 0, .int .i64 0, .int .u32 0]] H4_ (by kernel_rfl) (by kernel_rfl) (fun v => (by kernel_rfl)) (by kernel_rfl) (by kernel_rfl) E.renc ?_
    rintro _ H5_ ⟨B2_, rfl, gB2_, hB2_, kB2_, uH5_⟩
    have nH5_ := uH5_.n
    refine aops_go 1 60 (by kernel_rfl) ?_
    refine aops_call_to 60 8 #[.slice (some ⟨B2_, 0, none⟩) 7 8] H5_ (by kernel_rfl) (by kernel_rfl) (fun v => (by kernel_rfl)) (by kernel_rfl) (by kernel_rfl) (reads_any (byts_enc (k := 7) gB2_ (by omega) (by omega))) ?_
    rintro _ H6_ ⟨rfl, uH6_⟩
    have nH6_ := uH6_.n
    refine aops_go 2 60 (by kernel_rfl) ?_
    refine aops_end (by kernel_rfl) (then_normal ?_)
    refine aw_code f3bcacaacaacaacaaccc_eq ?_
    refine aw_cond (t := false) (by kernel_rfl) ?_
    refine aw_skip (blk_normal (then_normal ?_))
    refine aw_code f3bcacaacaacaacc_eq ?_
    refine aw_reg ?_
    refine aops_go 3 60 (by kernel_rfl) ?_
    refine aops_end (by kernel_rfl) (then_normal (hK1_ _ ?_))
    refine aw_loop_k fun K2_ hK2_ => ?_
    refine aw_code f3bcacaacaacaa_eq ?_
    refine aw_then ?_
    refine aw_code f3bcacaacaacaaa_eq ?_
    refine aw_then ?_
    refine aw_code f3bcacaacaacaaaa_eq ?_
    refine aw_reg ?_
    refine aops_go 2 60 (by kernel_rfl) ?_
    refine aops_end (by kernel_rfl) (then_normal ?_)
    refine aw_code f3bcacaacaacaaac_eq ?_
    refine aw_cond (t := true) (by kernel_rfl) ?_
    refine aw_skip (then_normal ?_)
    refine aw_code f3bcacaacaacaac_eq ?_
    refine aw_then ?_
    refine aw_code f3bcacaacaacaaca_eq ?_
    refine aw_block ?_
    refine aw_code f3bcacaacaacaacaa_eq ?_
    refine aw_then ?_
    refine aw_code f3bcacaacaacaacaaa_eq ?_
    refine aw_reg ?_
    refine aops_go 2 60 (by kernel_rfl) ?_
    obtain ⟨H7_, hH7_⟩ : ∃ x : Heap, x = H6_.push ⟨[Value.int .i64 0, .int .i64 0, .int .i64 0, .int .i64 0, .int .u32 0], 24, false⟩ := ⟨_, rfl⟩
    have nH7_ : H7_.n = H6_.n + 1 := by rw [hH7_]; rfl
    refine aops_val 3 (.pointer (some ⟨H6_.n, 0, none⟩)) H7_ (by kernel_rfl) (by kernel_rfl) (by kernel_rfl) ((by kernel_rfl : _ = some (Res.val (.pointer (some ⟨H6_.n, 0, none⟩)), H6_.push ⟨[Value.int .i64 0, .int .i64 0, .int .i64 0, .int .i64 0, .int .u32 0], 24, false⟩)).trans (by rw [← hH7_])) ?_
    have gH7_H6__n : H7_.get (H6_.n) = some ⟨[Value.int .i64 0, .int .i64 0, .int .i64 0, .int .i64 0, .int .u32 0], 24, false⟩ := by rw [hH7_]; exact (Heap.get_push _ _ _).trans (if_pos rfl)
    obtain ⟨H8_, hH8_⟩ : ∃ x : Heap, x = H7_.put (H6_.n) ⟨[Value.int .i64 op, .int .i64 0, .int .i64 0, .int .i64 0, .int .u32 0], 24, false⟩ := ⟨_, rfl⟩
    have nH8_ : H8_.n = H7_.n := by rw [hH8_]; rfl
    refine aops_skip H8_ (by kernel_rfl) (by kernel_rfl) (by kernel_rfl) ((by kernel_rfl : _ = skp (astore T14 24 (.pointer (some ⟨H6_.n, 0, none⟩)) (.agg #[.int .i64 op, .int .i64 0, .int .i64 0, .int .i64 0, .int .u32 0]) H7_)).trans (by rw [astore_to gH7_H6__n (by kernel_rfl), ← hH8_]; rfl)) ?_
    refine aops_end (by kernel_rfl) (then_normal ?_)
    refine aw_code f3bcacaacaacaacaac_eq ?_
    refine aw_then ?_
    refine aw_code f3bcacaacaacaacaaca_eq ?_
    refine aw_then ?_
    refine aw_code f3bcacaacaacaacaacaa_eq ?_
    refine aw_reg ?_
    refine aops_go 1 60 (by kernel_rfl) ?_
    refine aops_end (by kernel_rfl) (then_normal ?_)
    refine aw_code f3bcacaacaacaacaacac_eq ?_
    refine aw_block ?_
    refine aw_code f3bcacaacaacaacaacaca_eq ?_
    refine aw_then ?_
    refine aw_code f3bcacaacaacaacaacacaa_eq ?_
    refine aw_reg ?_
    refine aops_go 2 60 (by kernel_rfl) ?_
    refine aops_end (by kernel_rfl) (then_normal ?_)
    refine aw_code f3bcacaacaacaacaacacac_eq ?_
    refine aw_cond (t := true) (by kernel_rfl) ?_
    refine aw_code f3bcacaacaacaacaacacaca_eq ?_
    refine aw_reg ?_
    refine aops_go 1 60 (by kernel_rfl) ?_
    have gH8_H6__n : H8_.get (H6_.n) = some ⟨[Value.int .i64 op, .int .i64 0, .int .i64 0, .int .i64 0, .int .u32 0], 24, false⟩ := by rw [hH8_]; exact (Heap.get_put _ _ _ _).trans (if_pos rfl)
    obtain ⟨H9_, hH9_⟩ : ∃ x : Heap, x = H8_.put (H6_.n) ⟨[Value.int .i64 op, .int .i64 15, .int .i64 0, .int .i64 0, .int .u32 0], 24, false⟩ := ⟨_, rfl⟩
    have nH9_ : H9_.n = H8_.n := by rw [hH9_]; rfl
    refine aops_skip H9_ (by kernel_rfl) (by kernel_rfl) (by kernel_rfl) ((by kernel_rfl : _ = skp (astore T14 3 (.pointer (some ⟨H6_.n, 1, none⟩)) (.int .i64 15) H8_)).trans (by rw [astore_to gH8_H6__n (by kernel_rfl), ← hH9_]; rfl)) ?_
    refine aops_end (by kernel_rfl) (blk_normal (then_normal ?_))
    refine aw_code f3bcacaacaacaacaacc_eq ?_
    refine aw_then ?_
    refine aw_code f3bcacaacaacaacaacca_eq ?_
    refine aw_reg ?_
    have gH9_H6__n : H9_.get (H6_.n) = some ⟨[Value.int .i64 op, .int .i64 15, .int .i64 0, .int .i64 0, .int .u32 0], 24, false⟩ := by rw [hH9_]; exact (Heap.get_put _ _ _ _).trans (if_pos rfl)
    refine aops_val 47 (.agg #[.int .i64 op, .int .i64 15, .int .i64 0, .int .i64 0, .int .u32 0]) H9_ (by kernel_rfl) (by kernel_rfl) (by kernel_rfl) ((by kernel_rfl : _ = val (aload T14 24 (.pointer (some ⟨H6_.n, 0, none⟩)) H9_) H9_).trans (val_of ((aload_at gH9_H6__n).trans (by kernel_rfl)))) ?_
    refine aops_ask 48 (.bool true) 7 #[.agg #[.int .i64 op, .int .i64 15, .int .i64 0, .int .i64 0, .int .u32 0]] (by kernel_rfl) (by kernel_rfl) (by kernel_rfl) (by kernel_rfl) (orc7 op 15 0 0 0 (by rfl)) ?_
    refine aops_go 2 60 (by kernel_rfl) ?_
    refine aops_val 51 (.agg #[.int .i64 op, .int .i64 15, .int .i64 0, .int .i64 0, .int .u32 0]) H9_ (by kernel_rfl) (by kernel_rfl) (by kernel_rfl) ((by kernel_rfl : _ = val (aload T14 24 (.pointer (some ⟨H6_.n, 0, none⟩)) H9_) H9_).trans (val_of ((aload_at gH9_H6__n).trans (by kernel_rfl)))) ?_
    refine aops_call_to 52 9 #[.agg #[.int .i64 op, .int .i64 15, .int .i64 0, .int .i64 0, .int .u32 0]] H9_ (by kernel_rfl) (by kernel_rfl) (fun v => (by kernel_rfl)) (by kernel_rfl) (by kernel_rfl) E.renc ?_
    rintro _ H10_ ⟨B3_, rfl, gB3_, hB3_, kB3_, uH10_⟩
    have nH10_ := uH10_.n
    refine aops_call_to 53 8 #[.slice (some ⟨B3_, 0, none⟩) 8 8] H10_ (by kernel_rfl) (by kernel_rfl) (fun v => (by kernel_rfl)) (by kernel_rfl) (by kernel_rfl) (reads_any (byts_enc (k := 8) gB3_ (by omega) (by omega))) ?_
    rintro _ H11_ ⟨rfl, uH11_⟩
    have nH11_ := uH11_.n
    refine aops_go 3 60 (by kernel_rfl) ?_
    have gH11_H6__n : H11_.get (H6_.n) = some ⟨[Value.int .i64 op, .int .i64 15, .int .i64 0, .int .i64 0, .int .u32 0], 24, false⟩ := by rw [uH11_.get _ (by omega)]; rw [uH10_.get _ (by omega)]; exact gH9_H6__n
    refine aops_val 57 (.agg #[.int .i64 op, .int .i64 15, .int .i64 0, .int .i64 0, .int .u32 0]) H11_ (by kernel_rfl) (by kernel_rfl) (by kernel_rfl) ((by kernel_rfl : _ = val (aload T14 24 (.pointer (some ⟨H6_.n, 0, none⟩)) H11_) H11_).trans (val_of ((aload_at gH11_H6__n).trans (by kernel_rfl)))) ?_
    refine aops_call_to 58 9 #[.agg #[.int .i64 op, .int .i64 15, .int .i64 0, .int .i64 0, .int .u32 0]] H11_ (by kernel_rfl) (by kernel_rfl) (fun v => (by kernel_rfl)) (by kernel_rfl) (by kernel_rfl) E.renc ?_
    rintro _ H12_ ⟨B4_, rfl, gB4_, hB4_, kB4_, uH12_⟩
    have nH12_ := uH12_.n
    refine aops_go 1 60 (by kernel_rfl) ?_
    refine aops_call_to 60 8 #[.slice (some ⟨B4_, 0, none⟩) 7 8] H12_ (by kernel_rfl) (by kernel_rfl) (fun v => (by kernel_rfl)) (by kernel_rfl) (by kernel_rfl) (reads_any (byts_enc (k := 7) gB4_ (by omega) (by omega))) ?_
    rintro _ H13_ ⟨rfl, uH13_⟩
    have nH13_ := uH13_.n
    refine aops_go 2 60 (by kernel_rfl) ?_
    refine aops_end (by kernel_rfl) (then_normal ?_)
    refine aw_code f3bcacaacaacaacaaccc_eq ?_
    refine aw_cond (t := false) (by kernel_rfl) ?_
    refine aw_skip (blk_normal (then_normal ?_))
    refine aw_code f3bcacaacaacaacc_eq ?_
    refine aw_reg ?_
    refine aops_go 3 60 (by kernel_rfl) ?_
    refine aops_end (by kernel_rfl) (then_normal (hK2_ _ ?_))
    refine aw_loop_k fun K3_ hK3_ => ?_
    refine aw_code f3bcacaacaacaa_eq ?_
    refine aw_then ?_
    refine aw_code f3bcacaacaacaaa_eq ?_
    refine aw_then ?_
    refine aw_code f3bcacaacaacaaaa_eq ?_
    refine aw_reg ?_
    refine aops_go 2 60 (by kernel_rfl) ?_
    refine aops_end (by kernel_rfl) (then_normal ?_)
    refine aw_code f3bcacaacaacaaac_eq ?_
    refine aw_cond (t := true) (by kernel_rfl) ?_
    refine aw_skip (then_normal ?_)
    refine aw_code f3bcacaacaacaac_eq ?_
    refine aw_then ?_
    refine aw_code f3bcacaacaacaaca_eq ?_
    refine aw_block ?_
    refine aw_code f3bcacaacaacaacaa_eq ?_
    refine aw_then ?_
    refine aw_code f3bcacaacaacaacaaa_eq ?_
    refine aw_reg ?_
    refine aops_go 2 60 (by kernel_rfl) ?_
    obtain ⟨H14_, hH14_⟩ : ∃ x : Heap, x = H13_.push ⟨[Value.int .i64 0, .int .i64 0, .int .i64 0, .int .i64 0, .int .u32 0], 24, false⟩ := ⟨_, rfl⟩
    have nH14_ : H14_.n = H13_.n + 1 := by rw [hH14_]; rfl
    refine aops_val 3 (.pointer (some ⟨H13_.n, 0, none⟩)) H14_ (by kernel_rfl) (by kernel_rfl) (by kernel_rfl) ((by kernel_rfl : _ = some (Res.val (.pointer (some ⟨H13_.n, 0, none⟩)), H13_.push ⟨[Value.int .i64 0, .int .i64 0, .int .i64 0, .int .i64 0, .int .u32 0], 24, false⟩)).trans (by rw [← hH14_])) ?_
    have gH14_H13__n : H14_.get (H13_.n) = some ⟨[Value.int .i64 0, .int .i64 0, .int .i64 0, .int .i64 0, .int .u32 0], 24, false⟩ := by rw [hH14_]; exact (Heap.get_push _ _ _).trans (if_pos rfl)
    obtain ⟨H15_, hH15_⟩ : ∃ x : Heap, x = H14_.put (H13_.n) ⟨[Value.int .i64 op, .int .i64 0, .int .i64 0, .int .i64 0, .int .u32 0], 24, false⟩ := ⟨_, rfl⟩
    have nH15_ : H15_.n = H14_.n := by rw [hH15_]; rfl
    refine aops_skip H15_ (by kernel_rfl) (by kernel_rfl) (by kernel_rfl) ((by kernel_rfl : _ = skp (astore T14 24 (.pointer (some ⟨H13_.n, 0, none⟩)) (.agg #[.int .i64 op, .int .i64 0, .int .i64 0, .int .i64 0, .int .u32 0]) H14_)).trans (by rw [astore_to gH14_H13__n (by kernel_rfl), ← hH15_]; rfl)) ?_
    refine aops_end (by kernel_rfl) (then_normal ?_)
    refine aw_code f3bcacaacaacaacaac_eq ?_
    refine aw_then ?_
    refine aw_code f3bcacaacaacaacaaca_eq ?_
    refine aw_then ?_
    refine aw_code f3bcacaacaacaacaacaa_eq ?_
    refine aw_reg ?_
    refine aops_go 1 60 (by kernel_rfl) ?_
    refine aops_end (by kernel_rfl) (then_normal ?_)
    refine aw_code f3bcacaacaacaacaacac_eq ?_
    refine aw_block ?_
    refine aw_code f3bcacaacaacaacaacaca_eq ?_
    refine aw_then ?_
    refine aw_code f3bcacaacaacaacaacacaa_eq ?_
    refine aw_reg ?_
    refine aops_go 2 60 (by kernel_rfl) ?_
    refine aops_end (by kernel_rfl) (then_normal ?_)
    refine aw_code f3bcacaacaacaacaacacac_eq ?_
    refine aw_cond (t := false) (by kernel_rfl) ?_
    refine aw_code f3bcacaacaacaacaacacacc_eq ?_
    refine aw_then ?_
    refine aw_code f3bcacaacaacaacaacacacca_eq ?_
    refine aw_reg ?_
    refine aops_go 2 60 (by kernel_rfl) ?_
    refine aops_end (by kernel_rfl) (then_normal ?_)
    refine aw_code f3bcacaacaacaacaacacaccc_eq ?_
    refine aw_cond (t := true) (by kernel_rfl) ?_
    refine aw_code f3bcacaacaacaacaacacaccca_eq ?_
    refine aw_reg ?_
    refine aops_go 1 60 (by kernel_rfl) ?_
    have gH15_H13__n : H15_.get (H13_.n) = some ⟨[Value.int .i64 op, .int .i64 0, .int .i64 0, .int .i64 0, .int .u32 0], 24, false⟩ := by rw [hH15_]; exact (Heap.get_put _ _ _ _).trans (if_pos rfl)
    obtain ⟨H16_, hH16_⟩ : ∃ x : Heap, x = H15_.put (H13_.n) ⟨[Value.int .i64 op, .int .i64 0, .int .i64 15, .int .i64 0, .int .u32 0], 24, false⟩ := ⟨_, rfl⟩
    have nH16_ : H16_.n = H15_.n := by rw [hH16_]; rfl
    refine aops_skip H16_ (by kernel_rfl) (by kernel_rfl) (by kernel_rfl) ((by kernel_rfl : _ = skp (astore T14 3 (.pointer (some ⟨H13_.n, 2, none⟩)) (.int .i64 15) H15_)).trans (by rw [astore_to gH15_H13__n (by kernel_rfl), ← hH16_]; rfl)) ?_
    refine aops_end (by kernel_rfl) (blk_normal (then_normal ?_))
    refine aw_code f3bcacaacaacaacaacc_eq ?_
    refine aw_then ?_
    refine aw_code f3bcacaacaacaacaacca_eq ?_
    refine aw_reg ?_
    have gH16_H13__n : H16_.get (H13_.n) = some ⟨[Value.int .i64 op, .int .i64 0, .int .i64 15, .int .i64 0, .int .u32 0], 24, false⟩ := by rw [hH16_]; exact (Heap.get_put _ _ _ _).trans (if_pos rfl)
    refine aops_val 47 (.agg #[.int .i64 op, .int .i64 0, .int .i64 15, .int .i64 0, .int .u32 0]) H16_ (by kernel_rfl) (by kernel_rfl) (by kernel_rfl) ((by kernel_rfl : _ = val (aload T14 24 (.pointer (some ⟨H13_.n, 0, none⟩)) H16_) H16_).trans (val_of ((aload_at gH16_H13__n).trans (by kernel_rfl)))) ?_
    refine aops_ask 48 (.bool true) 7 #[.agg #[.int .i64 op, .int .i64 0, .int .i64 15, .int .i64 0, .int .u32 0]] (by kernel_rfl) (by kernel_rfl) (by kernel_rfl) (by kernel_rfl) (orc7 op 0 15 0 0 (by rfl)) ?_
    refine aops_go 2 60 (by kernel_rfl) ?_
    refine aops_val 51 (.agg #[.int .i64 op, .int .i64 0, .int .i64 15, .int .i64 0, .int .u32 0]) H16_ (by kernel_rfl) (by kernel_rfl) (by kernel_rfl) ((by kernel_rfl : _ = val (aload T14 24 (.pointer (some ⟨H13_.n, 0, none⟩)) H16_) H16_).trans (val_of ((aload_at gH16_H13__n).trans (by kernel_rfl)))) ?_
    refine aops_call_to 52 9 #[.agg #[.int .i64 op, .int .i64 0, .int .i64 15, .int .i64 0, .int .u32 0]] H16_ (by kernel_rfl) (by kernel_rfl) (fun v => (by kernel_rfl)) (by kernel_rfl) (by kernel_rfl) E.renc ?_
    rintro _ H17_ ⟨B5_, rfl, gB5_, hB5_, kB5_, uH17_⟩
    have nH17_ := uH17_.n
    refine aops_call_to 53 8 #[.slice (some ⟨B5_, 0, none⟩) 8 8] H17_ (by kernel_rfl) (by kernel_rfl) (fun v => (by kernel_rfl)) (by kernel_rfl) (by kernel_rfl) (reads_any (byts_enc (k := 8) gB5_ (by omega) (by omega))) ?_
    rintro _ H18_ ⟨rfl, uH18_⟩
    have nH18_ := uH18_.n
    refine aops_go 3 60 (by kernel_rfl) ?_
    have gH18_H13__n : H18_.get (H13_.n) = some ⟨[Value.int .i64 op, .int .i64 0, .int .i64 15, .int .i64 0, .int .u32 0], 24, false⟩ := by rw [uH18_.get _ (by omega)]; rw [uH17_.get _ (by omega)]; exact gH16_H13__n
    refine aops_val 57 (.agg #[.int .i64 op, .int .i64 0, .int .i64 15, .int .i64 0, .int .u32 0]) H18_ (by kernel_rfl) (by kernel_rfl) (by kernel_rfl) ((by kernel_rfl : _ = val (aload T14 24 (.pointer (some ⟨H13_.n, 0, none⟩)) H18_) H18_).trans (val_of ((aload_at gH18_H13__n).trans (by kernel_rfl)))) ?_
    refine aops_call_to 58 9 #[.agg #[.int .i64 op, .int .i64 0, .int .i64 15, .int .i64 0, .int .u32 0]] H18_ (by kernel_rfl) (by kernel_rfl) (fun v => (by kernel_rfl)) (by kernel_rfl) (by kernel_rfl) E.renc ?_
    rintro _ H19_ ⟨B6_, rfl, gB6_, hB6_, kB6_, uH19_⟩
    have nH19_ := uH19_.n
    refine aops_go 1 60 (by kernel_rfl) ?_
    refine aops_call_to 60 8 #[.slice (some ⟨B6_, 0, none⟩) 7 8] H19_ (by kernel_rfl) (by kernel_rfl) (fun v => (by kernel_rfl)) (by kernel_rfl) (by kernel_rfl) (reads_any (byts_enc (k := 7) gB6_ (by omega) (by omega))) ?_
    rintro _ H20_ ⟨rfl, uH20_⟩
    have nH20_ := uH20_.n
    refine aops_go 2 60 (by kernel_rfl) ?_
    refine aops_end (by kernel_rfl) (then_normal ?_)
    refine aw_code f3bcacaacaacaacaaccc_eq ?_
    refine aw_cond (t := false) (by kernel_rfl) ?_
    refine aw_skip (blk_normal (then_normal ?_))
    refine aw_code f3bcacaacaacaacc_eq ?_
    refine aw_reg ?_
    refine aops_go 3 60 (by kernel_rfl) ?_
    refine aops_end (by kernel_rfl) (then_normal (hK3_ _ ?_))
    refine aw_loop_k fun K4_ hK4_ => ?_
    refine aw_code f3bcacaacaacaa_eq ?_
    refine aw_then ?_
    refine aw_code f3bcacaacaacaaa_eq ?_
    refine aw_then ?_
    refine aw_code f3bcacaacaacaaaa_eq ?_
    refine aw_reg ?_
    refine aops_go 2 60 (by kernel_rfl) ?_
    refine aops_end (by kernel_rfl) (then_normal ?_)
    refine aw_code f3bcacaacaacaaac_eq ?_
    refine aw_cond (t := true) (by kernel_rfl) ?_
    refine aw_skip (then_normal ?_)
    refine aw_code f3bcacaacaacaac_eq ?_
    refine aw_then ?_
    refine aw_code f3bcacaacaacaaca_eq ?_
    refine aw_block ?_
    refine aw_code f3bcacaacaacaacaa_eq ?_
    refine aw_then ?_
    refine aw_code f3bcacaacaacaacaaa_eq ?_
    refine aw_reg ?_
    refine aops_go 2 60 (by kernel_rfl) ?_
    obtain ⟨H21_, hH21_⟩ : ∃ x : Heap, x = H20_.push ⟨[Value.int .i64 0, .int .i64 0, .int .i64 0, .int .i64 0, .int .u32 0], 24, false⟩ := ⟨_, rfl⟩
    have nH21_ : H21_.n = H20_.n + 1 := by rw [hH21_]; rfl
    refine aops_val 3 (.pointer (some ⟨H20_.n, 0, none⟩)) H21_ (by kernel_rfl) (by kernel_rfl) (by kernel_rfl) ((by kernel_rfl : _ = some (Res.val (.pointer (some ⟨H20_.n, 0, none⟩)), H20_.push ⟨[Value.int .i64 0, .int .i64 0, .int .i64 0, .int .i64 0, .int .u32 0], 24, false⟩)).trans (by rw [← hH21_])) ?_
    have gH21_H20__n : H21_.get (H20_.n) = some ⟨[Value.int .i64 0, .int .i64 0, .int .i64 0, .int .i64 0, .int .u32 0], 24, false⟩ := by rw [hH21_]; exact (Heap.get_push _ _ _).trans (if_pos rfl)
    obtain ⟨H22_, hH22_⟩ : ∃ x : Heap, x = H21_.put (H20_.n) ⟨[Value.int .i64 op, .int .i64 0, .int .i64 0, .int .i64 0, .int .u32 0], 24, false⟩ := ⟨_, rfl⟩
    have nH22_ : H22_.n = H21_.n := by rw [hH22_]; rfl
    refine aops_skip H22_ (by kernel_rfl) (by kernel_rfl) (by kernel_rfl) ((by kernel_rfl : _ = skp (astore T14 24 (.pointer (some ⟨H20_.n, 0, none⟩)) (.agg #[.int .i64 op, .int .i64 0, .int .i64 0, .int .i64 0, .int .u32 0]) H21_)).trans (by rw [astore_to gH21_H20__n (by kernel_rfl), ← hH22_]; rfl)) ?_
    refine aops_end (by kernel_rfl) (then_normal ?_)
    refine aw_code f3bcacaacaacaacaac_eq ?_
    refine aw_then ?_
    refine aw_code f3bcacaacaacaacaaca_eq ?_
    refine aw_then ?_
    refine aw_code f3bcacaacaacaacaacaa_eq ?_
    refine aw_reg ?_
    refine aops_go 1 60 (by kernel_rfl) ?_
    refine aops_end (by kernel_rfl) (then_normal ?_)
    refine aw_code f3bcacaacaacaacaacac_eq ?_
    refine aw_block ?_
    refine aw_code f3bcacaacaacaacaacaca_eq ?_
    refine aw_then ?_
    refine aw_code f3bcacaacaacaacaacacaa_eq ?_
    refine aw_reg ?_
    refine aops_go 2 60 (by kernel_rfl) ?_
    refine aops_end (by kernel_rfl) (then_normal ?_)
    refine aw_code f3bcacaacaacaacaacacac_eq ?_
    refine aw_cond (t := false) (by kernel_rfl) ?_
    refine aw_code f3bcacaacaacaacaacacacc_eq ?_
    refine aw_then ?_
    refine aw_code f3bcacaacaacaacaacacacca_eq ?_
    refine aw_reg ?_
    refine aops_go 2 60 (by kernel_rfl) ?_
    refine aops_end (by kernel_rfl) (then_normal ?_)
    refine aw_code f3bcacaacaacaacaacacaccc_eq ?_
    refine aw_cond (t := false) (by kernel_rfl) ?_
    refine aw_code f3bcacaacaacaacaacacacccc_eq ?_
    refine aw_then ?_
    refine aw_code f3bcacaacaacaacaacacacccca_eq ?_
    refine aw_reg ?_
    refine aops_go 2 60 (by kernel_rfl) ?_
    refine aops_end (by kernel_rfl) (then_normal ?_)
    refine aw_code f3bcacaacaacaacaacacaccccc_eq ?_
    refine aw_cond (t := true) (by kernel_rfl) ?_
    refine aw_code f3bcacaacaacaacaacacaccccca_eq ?_
    refine aw_reg ?_
    refine aops_go 1 60 (by kernel_rfl) ?_
    have gH22_H20__n : H22_.get (H20_.n) = some ⟨[Value.int .i64 op, .int .i64 0, .int .i64 0, .int .i64 0, .int .u32 0], 24, false⟩ := by rw [hH22_]; exact (Heap.get_put _ _ _ _).trans (if_pos rfl)
    obtain ⟨H23_, hH23_⟩ : ∃ x : Heap, x = H22_.put (H20_.n) ⟨[Value.int .i64 op, .int .i64 0, .int .i64 0, .int .i64 15, .int .u32 0], 24, false⟩ := ⟨_, rfl⟩
    have nH23_ : H23_.n = H22_.n := by rw [hH23_]; rfl
    refine aops_skip H23_ (by kernel_rfl) (by kernel_rfl) (by kernel_rfl) ((by kernel_rfl : _ = skp (astore T14 3 (.pointer (some ⟨H20_.n, 3, none⟩)) (.int .i64 15) H22_)).trans (by rw [astore_to gH22_H20__n (by kernel_rfl), ← hH23_]; rfl)) ?_
    refine aops_end (by kernel_rfl) (blk_normal (then_normal ?_))
    refine aw_code f3bcacaacaacaacaacc_eq ?_
    refine aw_then ?_
    refine aw_code f3bcacaacaacaacaacca_eq ?_
    refine aw_reg ?_
    have gH23_H20__n : H23_.get (H20_.n) = some ⟨[Value.int .i64 op, .int .i64 0, .int .i64 0, .int .i64 15, .int .u32 0], 24, false⟩ := by rw [hH23_]; exact (Heap.get_put _ _ _ _).trans (if_pos rfl)
    refine aops_val 47 (.agg #[.int .i64 op, .int .i64 0, .int .i64 0, .int .i64 15, .int .u32 0]) H23_ (by kernel_rfl) (by kernel_rfl) (by kernel_rfl) ((by kernel_rfl : _ = val (aload T14 24 (.pointer (some ⟨H20_.n, 0, none⟩)) H23_) H23_).trans (val_of ((aload_at gH23_H20__n).trans (by kernel_rfl)))) ?_
    refine aops_ask 48 (.bool true) 7 #[.agg #[.int .i64 op, .int .i64 0, .int .i64 0, .int .i64 15, .int .u32 0]] (by kernel_rfl) (by kernel_rfl) (by kernel_rfl) (by kernel_rfl) (orc7 op 0 0 15 0 (by rfl)) ?_
    refine aops_go 2 60 (by kernel_rfl) ?_
    refine aops_val 51 (.agg #[.int .i64 op, .int .i64 0, .int .i64 0, .int .i64 15, .int .u32 0]) H23_ (by kernel_rfl) (by kernel_rfl) (by kernel_rfl) ((by kernel_rfl : _ = val (aload T14 24 (.pointer (some ⟨H20_.n, 0, none⟩)) H23_) H23_).trans (val_of ((aload_at gH23_H20__n).trans (by kernel_rfl)))) ?_
    refine aops_call_to 52 9 #[.agg #[.int .i64 op, .int .i64 0, .int .i64 0, .int .i64 15, .int .u32 0]] H23_ (by kernel_rfl) (by kernel_rfl) (fun v => (by kernel_rfl)) (by kernel_rfl) (by kernel_rfl) E.renc ?_
    rintro _ H24_ ⟨B7_, rfl, gB7_, hB7_, kB7_, uH24_⟩
    have nH24_ := uH24_.n
    refine aops_call_to 53 8 #[.slice (some ⟨B7_, 0, none⟩) 8 8] H24_ (by kernel_rfl) (by kernel_rfl) (fun v => (by kernel_rfl)) (by kernel_rfl) (by kernel_rfl) (reads_any (byts_enc (k := 8) gB7_ (by omega) (by omega))) ?_
    rintro _ H25_ ⟨rfl, uH25_⟩
    have nH25_ := uH25_.n
    refine aops_go 3 60 (by kernel_rfl) ?_
    have gH25_H20__n : H25_.get (H20_.n) = some ⟨[Value.int .i64 op, .int .i64 0, .int .i64 0, .int .i64 15, .int .u32 0], 24, false⟩ := by rw [uH25_.get _ (by omega)]; rw [uH24_.get _ (by omega)]; exact gH23_H20__n
    refine aops_val 57 (.agg #[.int .i64 op, .int .i64 0, .int .i64 0, .int .i64 15, .int .u32 0]) H25_ (by kernel_rfl) (by kernel_rfl) (by kernel_rfl) ((by kernel_rfl : _ = val (aload T14 24 (.pointer (some ⟨H20_.n, 0, none⟩)) H25_) H25_).trans (val_of ((aload_at gH25_H20__n).trans (by kernel_rfl)))) ?_
    refine aops_call_to 58 9 #[.agg #[.int .i64 op, .int .i64 0, .int .i64 0, .int .i64 15, .int .u32 0]] H25_ (by kernel_rfl) (by kernel_rfl) (fun v => (by kernel_rfl)) (by kernel_rfl) (by kernel_rfl) E.renc ?_
    rintro _ H26_ ⟨B8_, rfl, gB8_, hB8_, kB8_, uH26_⟩
    have nH26_ := uH26_.n
    refine aops_go 1 60 (by kernel_rfl) ?_
    refine aops_call_to 60 8 #[.slice (some ⟨B8_, 0, none⟩) 7 8] H26_ (by kernel_rfl) (by kernel_rfl) (fun v => (by kernel_rfl)) (by kernel_rfl) (by kernel_rfl) (reads_any (byts_enc (k := 7) gB8_ (by omega) (by omega))) ?_
    rintro _ H27_ ⟨rfl, uH27_⟩
    have nH27_ := uH27_.n
    refine aops_go 2 60 (by kernel_rfl) ?_
    refine aops_end (by kernel_rfl) (then_normal ?_)
    refine aw_code f3bcacaacaacaacaaccc_eq ?_
    refine aw_cond (t := false) (by kernel_rfl) ?_
    refine aw_skip (blk_normal (then_normal ?_))
    refine aw_code f3bcacaacaacaacc_eq ?_
    refine aw_reg ?_
    refine aops_go 3 60 (by kernel_rfl) ?_
    refine aops_end (by kernel_rfl) (then_normal (hK4_ _ ?_))
    refine aw_loop_k fun K5_ hK5_ => ?_
    refine aw_code f3bcacaacaacaa_eq ?_
    refine aw_then ?_
    refine aw_code f3bcacaacaacaaa_eq ?_
    refine aw_then ?_
    refine aw_code f3bcacaacaacaaaa_eq ?_
    refine aw_reg ?_
    refine aops_go 2 60 (by kernel_rfl) ?_
    refine aops_end (by kernel_rfl) (then_normal ?_)
    refine aw_code f3bcacaacaacaaac_eq ?_
    refine aw_cond (t := true) (by kernel_rfl) ?_
    refine aw_skip (then_normal ?_)
    refine aw_code f3bcacaacaacaac_eq ?_
    refine aw_then ?_
    refine aw_code f3bcacaacaacaaca_eq ?_
    refine aw_block ?_
    refine aw_code f3bcacaacaacaacaa_eq ?_
    refine aw_then ?_
    refine aw_code f3bcacaacaacaacaaa_eq ?_
    refine aw_reg ?_
    refine aops_go 2 60 (by kernel_rfl) ?_
    obtain ⟨H28_, hH28_⟩ : ∃ x : Heap, x = H27_.push ⟨[Value.int .i64 0, .int .i64 0, .int .i64 0, .int .i64 0, .int .u32 0], 24, false⟩ := ⟨_, rfl⟩
    have nH28_ : H28_.n = H27_.n + 1 := by rw [hH28_]; rfl
    refine aops_val 3 (.pointer (some ⟨H27_.n, 0, none⟩)) H28_ (by kernel_rfl) (by kernel_rfl) (by kernel_rfl) ((by kernel_rfl : _ = some (Res.val (.pointer (some ⟨H27_.n, 0, none⟩)), H27_.push ⟨[Value.int .i64 0, .int .i64 0, .int .i64 0, .int .i64 0, .int .u32 0], 24, false⟩)).trans (by rw [← hH28_])) ?_
    have gH28_H27__n : H28_.get (H27_.n) = some ⟨[Value.int .i64 0, .int .i64 0, .int .i64 0, .int .i64 0, .int .u32 0], 24, false⟩ := by rw [hH28_]; exact (Heap.get_push _ _ _).trans (if_pos rfl)
    obtain ⟨H29_, hH29_⟩ : ∃ x : Heap, x = H28_.put (H27_.n) ⟨[Value.int .i64 op, .int .i64 0, .int .i64 0, .int .i64 0, .int .u32 0], 24, false⟩ := ⟨_, rfl⟩
    have nH29_ : H29_.n = H28_.n := by rw [hH29_]; rfl
    refine aops_skip H29_ (by kernel_rfl) (by kernel_rfl) (by kernel_rfl) ((by kernel_rfl : _ = skp (astore T14 24 (.pointer (some ⟨H27_.n, 0, none⟩)) (.agg #[.int .i64 op, .int .i64 0, .int .i64 0, .int .i64 0, .int .u32 0]) H28_)).trans (by rw [astore_to gH28_H27__n (by kernel_rfl), ← hH29_]; rfl)) ?_
    refine aops_end (by kernel_rfl) (then_normal ?_)
    refine aw_code f3bcacaacaacaacaac_eq ?_
    refine aw_then ?_
    refine aw_code f3bcacaacaacaacaaca_eq ?_
    refine aw_then ?_
    refine aw_code f3bcacaacaacaacaacaa_eq ?_
    refine aw_reg ?_
    refine aops_go 1 60 (by kernel_rfl) ?_
    refine aops_end (by kernel_rfl) (then_normal ?_)
    refine aw_code f3bcacaacaacaacaacac_eq ?_
    refine aw_block ?_
    refine aw_code f3bcacaacaacaacaacaca_eq ?_
    refine aw_then ?_
    refine aw_code f3bcacaacaacaacaacacaa_eq ?_
    refine aw_reg ?_
    refine aops_go 2 60 (by kernel_rfl) ?_
    refine aops_end (by kernel_rfl) (then_normal ?_)
    refine aw_code f3bcacaacaacaacaacacac_eq ?_
    refine aw_cond (t := false) (by kernel_rfl) ?_
    refine aw_code f3bcacaacaacaacaacacacc_eq ?_
    refine aw_then ?_
    refine aw_code f3bcacaacaacaacaacacacca_eq ?_
    refine aw_reg ?_
    refine aops_go 2 60 (by kernel_rfl) ?_
    refine aops_end (by kernel_rfl) (then_normal ?_)
    refine aw_code f3bcacaacaacaacaacacaccc_eq ?_
    refine aw_cond (t := false) (by kernel_rfl) ?_
    refine aw_code f3bcacaacaacaacaacacacccc_eq ?_
    refine aw_then ?_
    refine aw_code f3bcacaacaacaacaacacacccca_eq ?_
    refine aw_reg ?_
    refine aops_go 2 60 (by kernel_rfl) ?_
    refine aops_end (by kernel_rfl) (then_normal ?_)
    refine aw_code f3bcacaacaacaacaacacaccccc_eq ?_
    refine aw_cond (t := false) (by kernel_rfl) ?_
    refine aw_code f3bcacaacaacaacaacacacccccc_eq ?_
    refine aw_then ?_
    refine aw_code f3bcacaacaacaacaacacacccccca_eq ?_
    refine aw_reg ?_
    refine aops_go 2 60 (by kernel_rfl) ?_
    refine aops_end (by kernel_rfl) (then_normal ?_)
    refine aw_code f3bcacaacaacaacaacacaccccccc_eq ?_
    refine aw_cond (t := true) (by kernel_rfl) ?_
    refine aw_code f3bcacaacaacaacaacacaccccccca_eq ?_
    refine aw_reg ?_
    refine aops_go 1 60 (by kernel_rfl) ?_
    have gH29_H27__n : H29_.get (H27_.n) = some ⟨[Value.int .i64 op, .int .i64 0, .int .i64 0, .int .i64 0, .int .u32 0], 24, false⟩ := by rw [hH29_]; exact (Heap.get_put _ _ _ _).trans (if_pos rfl)
    obtain ⟨H30_, hH30_⟩ : ∃ x : Heap, x = H29_.put (H27_.n) ⟨[Value.int .i64 op, .int .i64 0, .int .i64 0, .int .i64 0, .int .u32 4294967295], 24, false⟩ := ⟨_, rfl⟩
    have nH30_ : H30_.n = H29_.n := by rw [hH30_]; rfl
    refine aops_skip H30_ (by kernel_rfl) (by kernel_rfl) (by kernel_rfl) ((by kernel_rfl : _ = skp (astore T14 22 (.pointer (some ⟨H27_.n, 4, none⟩)) (.int .u32 4294967295) H29_)).trans (by rw [astore_to gH29_H27__n (by kernel_rfl), ← hH30_]; rfl)) ?_
    refine aops_end (by kernel_rfl) (blk_normal (then_normal ?_))
    refine aw_code f3bcacaacaacaacaacc_eq ?_
    refine aw_then ?_
    refine aw_code f3bcacaacaacaacaacca_eq ?_
    refine aw_reg ?_
    have gH30_H27__n : H30_.get (H27_.n) = some ⟨[Value.int .i64 op, .int .i64 0, .int .i64 0, .int .i64 0, .int .u32 4294967295], 24, false⟩ := by rw [hH30_]; exact (Heap.get_put _ _ _ _).trans (if_pos rfl)
    refine aops_val 47 (.agg #[.int .i64 op, .int .i64 0, .int .i64 0, .int .i64 0, .int .u32 4294967295]) H30_ (by kernel_rfl) (by kernel_rfl) (by kernel_rfl) ((by kernel_rfl : _ = val (aload T14 24 (.pointer (some ⟨H27_.n, 0, none⟩)) H30_) H30_).trans (val_of ((aload_at gH30_H27__n).trans (by kernel_rfl)))) ?_
    refine aops_ask 48 (.bool true) 7 #[.agg #[.int .i64 op, .int .i64 0, .int .i64 0, .int .i64 0, .int .u32 4294967295]] (by kernel_rfl) (by kernel_rfl) (by kernel_rfl) (by kernel_rfl) (orc7 op 0 0 0 4294967295 (by rfl)) ?_
    refine aops_go 2 60 (by kernel_rfl) ?_
    refine aops_val 51 (.agg #[.int .i64 op, .int .i64 0, .int .i64 0, .int .i64 0, .int .u32 4294967295]) H30_ (by kernel_rfl) (by kernel_rfl) (by kernel_rfl) ((by kernel_rfl : _ = val (aload T14 24 (.pointer (some ⟨H27_.n, 0, none⟩)) H30_) H30_).trans (val_of ((aload_at gH30_H27__n).trans (by kernel_rfl)))) ?_
    refine aops_call_to 52 9 #[.agg #[.int .i64 op, .int .i64 0, .int .i64 0, .int .i64 0, .int .u32 4294967295]] H30_ (by kernel_rfl) (by kernel_rfl) (fun v => (by kernel_rfl)) (by kernel_rfl) (by kernel_rfl) E.renc ?_
    rintro _ H31_ ⟨B9_, rfl, gB9_, hB9_, kB9_, uH31_⟩
    have nH31_ := uH31_.n
    refine aops_call_to 53 8 #[.slice (some ⟨B9_, 0, none⟩) 8 8] H31_ (by kernel_rfl) (by kernel_rfl) (fun v => (by kernel_rfl)) (by kernel_rfl) (by kernel_rfl) (reads_any (byts_enc (k := 8) gB9_ (by omega) (by omega))) ?_
    rintro _ H32_ ⟨rfl, uH32_⟩
    have nH32_ := uH32_.n
    refine aops_go 3 60 (by kernel_rfl) ?_
    have gH32_H27__n : H32_.get (H27_.n) = some ⟨[Value.int .i64 op, .int .i64 0, .int .i64 0, .int .i64 0, .int .u32 4294967295], 24, false⟩ := by rw [uH32_.get _ (by omega)]; rw [uH31_.get _ (by omega)]; exact gH30_H27__n
    refine aops_val 57 (.agg #[.int .i64 op, .int .i64 0, .int .i64 0, .int .i64 0, .int .u32 4294967295]) H32_ (by kernel_rfl) (by kernel_rfl) (by kernel_rfl) ((by kernel_rfl : _ = val (aload T14 24 (.pointer (some ⟨H27_.n, 0, none⟩)) H32_) H32_).trans (val_of ((aload_at gH32_H27__n).trans (by kernel_rfl)))) ?_
    refine aops_call_to 58 9 #[.agg #[.int .i64 op, .int .i64 0, .int .i64 0, .int .i64 0, .int .u32 4294967295]] H32_ (by kernel_rfl) (by kernel_rfl) (fun v => (by kernel_rfl)) (by kernel_rfl) (by kernel_rfl) E.renc ?_
    rintro _ H33_ ⟨B10_, rfl, gB10_, hB10_, kB10_, uH33_⟩
    have nH33_ := uH33_.n
    refine aops_go 1 60 (by kernel_rfl) ?_
    refine aops_call_to 60 8 #[.slice (some ⟨B10_, 0, none⟩) 7 8] H33_ (by kernel_rfl) (by kernel_rfl) (fun v => (by kernel_rfl)) (by kernel_rfl) (by kernel_rfl) (reads_any (byts_enc (k := 7) gB10_ (by omega) (by omega))) ?_
    rintro _ H34_ ⟨rfl, uH34_⟩
    have nH34_ := uH34_.n
    refine aops_go 2 60 (by kernel_rfl) ?_
    refine aops_end (by kernel_rfl) (then_normal ?_)
    refine aw_code f3bcacaacaacaacaaccc_eq ?_
    refine aw_cond (t := false) (by kernel_rfl) ?_
    refine aw_skip (blk_normal (then_normal ?_))
    refine aw_code f3bcacaacaacaacc_eq ?_
    refine aw_reg ?_
    refine aops_go 3 60 (by kernel_rfl) ?_
    refine aops_end (by kernel_rfl) (then_normal (hK5_ _ ?_))
    refine aw_loop_k fun K6_ hK6_ => ?_
    refine aw_code f3bcacaacaacaa_eq ?_
    refine aw_then ?_
    refine aw_code f3bcacaacaacaaa_eq ?_
    refine aw_then ?_
    refine aw_code f3bcacaacaacaaaa_eq ?_
    refine aw_reg ?_
    refine aops_go 2 60 (by kernel_rfl) ?_
    refine aops_end (by kernel_rfl) (then_normal ?_)
    refine aw_code f3bcacaacaacaaac_eq ?_
    refine aw_cond (t := true) (by kernel_rfl) ?_
    refine aw_skip (then_normal ?_)
    refine aw_code f3bcacaacaacaac_eq ?_
    refine aw_then ?_
    refine aw_code f3bcacaacaacaaca_eq ?_
    refine aw_block ?_
    refine aw_code f3bcacaacaacaacaa_eq ?_
    refine aw_then ?_
    refine aw_code f3bcacaacaacaacaaa_eq ?_
    refine aw_reg ?_
    refine aops_go 2 60 (by kernel_rfl) ?_
    obtain ⟨H35_, hH35_⟩ : ∃ x : Heap, x = H34_.push ⟨[Value.int .i64 0, .int .i64 0, .int .i64 0, .int .i64 0, .int .u32 0], 24, false⟩ := ⟨_, rfl⟩
    have nH35_ : H35_.n = H34_.n + 1 := by rw [hH35_]; rfl
    refine aops_val 3 (.pointer (some ⟨H34_.n, 0, none⟩)) H35_ (by kernel_rfl) (by kernel_rfl) (by kernel_rfl) ((by kernel_rfl : _ = some (Res.val (.pointer (some ⟨H34_.n, 0, none⟩)), H34_.push ⟨[Value.int .i64 0, .int .i64 0, .int .i64 0, .int .i64 0, .int .u32 0], 24, false⟩)).trans (by rw [← hH35_])) ?_
    have gH35_H34__n : H35_.get (H34_.n) = some ⟨[Value.int .i64 0, .int .i64 0, .int .i64 0, .int .i64 0, .int .u32 0], 24, false⟩ := by rw [hH35_]; exact (Heap.get_push _ _ _).trans (if_pos rfl)
    obtain ⟨H36_, hH36_⟩ : ∃ x : Heap, x = H35_.put (H34_.n) ⟨[Value.int .i64 op, .int .i64 0, .int .i64 0, .int .i64 0, .int .u32 0], 24, false⟩ := ⟨_, rfl⟩
    have nH36_ : H36_.n = H35_.n := by rw [hH36_]; rfl
    refine aops_skip H36_ (by kernel_rfl) (by kernel_rfl) (by kernel_rfl) ((by kernel_rfl : _ = skp (astore T14 24 (.pointer (some ⟨H34_.n, 0, none⟩)) (.agg #[.int .i64 op, .int .i64 0, .int .i64 0, .int .i64 0, .int .u32 0]) H35_)).trans (by rw [astore_to gH35_H34__n (by kernel_rfl), ← hH36_]; rfl)) ?_
    refine aops_end (by kernel_rfl) (then_normal ?_)
    refine aw_code f3bcacaacaacaacaac_eq ?_
    refine aw_then ?_
    refine aw_code f3bcacaacaacaacaaca_eq ?_
    refine aw_then ?_
    refine aw_code f3bcacaacaacaacaacaa_eq ?_
    refine aw_reg ?_
    refine aops_go 1 60 (by kernel_rfl) ?_
    refine aops_end (by kernel_rfl) (then_normal ?_)
    refine aw_code f3bcacaacaacaacaacac_eq ?_
    refine aw_block ?_
    refine aw_code f3bcacaacaacaacaacaca_eq ?_
    refine aw_then ?_
    refine aw_code f3bcacaacaacaacaacacaa_eq ?_
    refine aw_reg ?_
    refine aops_go 2 60 (by kernel_rfl) ?_
    refine aops_end (by kernel_rfl) (then_normal ?_)
    refine aw_code f3bcacaacaacaacaacacac_eq ?_
    refine aw_cond (t := false) (by kernel_rfl) ?_
    refine aw_code f3bcacaacaacaacaacacacc_eq ?_
    refine aw_then ?_
    refine aw_code f3bcacaacaacaacaacacacca_eq ?_
    refine aw_reg ?_
    refine aops_go 2 60 (by kernel_rfl) ?_
    refine aops_end (by kernel_rfl) (then_normal ?_)
    refine aw_code f3bcacaacaacaacaacacaccc_eq ?_
    refine aw_cond (t := false) (by kernel_rfl) ?_
    refine aw_code f3bcacaacaacaacaacacacccc_eq ?_
    refine aw_then ?_
    refine aw_code f3bcacaacaacaacaacacacccca_eq ?_
    refine aw_reg ?_
    refine aops_go 2 60 (by kernel_rfl) ?_
    refine aops_end (by kernel_rfl) (then_normal ?_)
    refine aw_code f3bcacaacaacaacaacacaccccc_eq ?_
    refine aw_cond (t := false) (by kernel_rfl) ?_
    refine aw_code f3bcacaacaacaacaacacacccccc_eq ?_
    refine aw_then ?_
    refine aw_code f3bcacaacaacaacaacacacccccca_eq ?_
    refine aw_reg ?_
    refine aops_go 2 60 (by kernel_rfl) ?_
    refine aops_end (by kernel_rfl) (then_normal ?_)
    refine aw_code f3bcacaacaacaacaacacaccccccc_eq ?_
    refine aw_cond (t := false) (by kernel_rfl) ?_
    refine aw_code f3bcacaacaacaacaacacacccccccc_eq ?_
    refine aw_then ?_
    refine aw_code f3bcacaacaacaacaacacacccccccca_eq ?_
    refine aw_reg ?_
    refine aops_go 2 60 (by kernel_rfl) ?_
    refine aops_end (by kernel_rfl) (then_normal ?_)
    refine aw_code f3bcacaacaacaacaacacaccccccccc_eq ?_
    refine aw_cond (t := true) (by kernel_rfl) ?_
    refine aw_code f3bcacaacaacaacaacacaccccccccca_eq ?_
    refine aw_reg ?_
    refine aops_go 1 60 (by kernel_rfl) ?_
    have gH36_H34__n : H36_.get (H34_.n) = some ⟨[Value.int .i64 op, .int .i64 0, .int .i64 0, .int .i64 0, .int .u32 0], 24, false⟩ := by rw [hH36_]; exact (Heap.get_put _ _ _ _).trans (if_pos rfl)
    obtain ⟨H37_, hH37_⟩ : ∃ x : Heap, x = H36_.put (H34_.n) ⟨[Value.int .i64 op, .int .i64 16, .int .i64 0, .int .i64 0, .int .u32 0], 24, false⟩ := ⟨_, rfl⟩
    have nH37_ : H37_.n = H36_.n := by rw [hH37_]; rfl
    refine aops_skip H37_ (by kernel_rfl) (by kernel_rfl) (by kernel_rfl) ((by kernel_rfl : _ = skp (astore T14 3 (.pointer (some ⟨H34_.n, 1, none⟩)) (.int .i64 16) H36_)).trans (by rw [astore_to gH36_H34__n (by kernel_rfl), ← hH37_]; rfl)) ?_
    refine aops_end (by kernel_rfl) (blk_normal (then_normal ?_))
    refine aw_code f3bcacaacaacaacaacc_eq ?_
    refine aw_then ?_
    refine aw_code f3bcacaacaacaacaacca_eq ?_
    refine aw_reg ?_
    have gH37_H34__n : H37_.get (H34_.n) = some ⟨[Value.int .i64 op, .int .i64 16, .int .i64 0, .int .i64 0, .int .u32 0], 24, false⟩ := by rw [hH37_]; exact (Heap.get_put _ _ _ _).trans (if_pos rfl)
    refine aops_val 47 (.agg #[.int .i64 op, .int .i64 16, .int .i64 0, .int .i64 0, .int .u32 0]) H37_ (by kernel_rfl) (by kernel_rfl) (by kernel_rfl) ((by kernel_rfl : _ = val (aload T14 24 (.pointer (some ⟨H34_.n, 0, none⟩)) H37_) H37_).trans (val_of ((aload_at gH37_H34__n).trans (by kernel_rfl)))) ?_
    refine aops_ask 48 (.bool true) 7 #[.agg #[.int .i64 op, .int .i64 16, .int .i64 0, .int .i64 0, .int .u32 0]] (by kernel_rfl) (by kernel_rfl) (by kernel_rfl) (by kernel_rfl) (orc7 op 16 0 0 0 (by rfl)) ?_
    refine aops_go 2 60 (by kernel_rfl) ?_
    refine aops_val 51 (.agg #[.int .i64 op, .int .i64 16, .int .i64 0, .int .i64 0, .int .u32 0]) H37_ (by kernel_rfl) (by kernel_rfl) (by kernel_rfl) ((by kernel_rfl : _ = val (aload T14 24 (.pointer (some ⟨H34_.n, 0, none⟩)) H37_) H37_).trans (val_of ((aload_at gH37_H34__n).trans (by kernel_rfl)))) ?_
    refine aops_call_to 52 9 #[.agg #[.int .i64 op, .int .i64 16, .int .i64 0, .int .i64 0, .int .u32 0]] H37_ (by kernel_rfl) (by kernel_rfl) (fun v => (by kernel_rfl)) (by kernel_rfl) (by kernel_rfl) E.renc ?_
    rintro _ H38_ ⟨B11_, rfl, gB11_, hB11_, kB11_, uH38_⟩
    have nH38_ := uH38_.n
    refine aops_call_to 53 8 #[.slice (some ⟨B11_, 0, none⟩) 8 8] H38_ (by kernel_rfl) (by kernel_rfl) (fun v => (by kernel_rfl)) (by kernel_rfl) (by kernel_rfl) (reads_any (byts_enc (k := 8) gB11_ (by omega) (by omega))) ?_
    rintro _ H39_ ⟨rfl, uH39_⟩
    have nH39_ := uH39_.n
    refine aops_go 3 60 (by kernel_rfl) ?_
    have gH39_H34__n : H39_.get (H34_.n) = some ⟨[Value.int .i64 op, .int .i64 16, .int .i64 0, .int .i64 0, .int .u32 0], 24, false⟩ := by rw [uH39_.get _ (by omega)]; rw [uH38_.get _ (by omega)]; exact gH37_H34__n
    refine aops_val 57 (.agg #[.int .i64 op, .int .i64 16, .int .i64 0, .int .i64 0, .int .u32 0]) H39_ (by kernel_rfl) (by kernel_rfl) (by kernel_rfl) ((by kernel_rfl : _ = val (aload T14 24 (.pointer (some ⟨H34_.n, 0, none⟩)) H39_) H39_).trans (val_of ((aload_at gH39_H34__n).trans (by kernel_rfl)))) ?_
    refine aops_call_to 58 9 #[.agg #[.int .i64 op, .int .i64 16, .int .i64 0, .int .i64 0, .int .u32 0]] H39_ (by kernel_rfl) (by kernel_rfl) (fun v => (by kernel_rfl)) (by kernel_rfl) (by kernel_rfl) E.renc ?_
    rintro _ H40_ ⟨B12_, rfl, gB12_, hB12_, kB12_, uH40_⟩
    have nH40_ := uH40_.n
    refine aops_go 1 60 (by kernel_rfl) ?_
    refine aops_call_to 60 8 #[.slice (some ⟨B12_, 0, none⟩) 7 8] H40_ (by kernel_rfl) (by kernel_rfl) (fun v => (by kernel_rfl)) (by kernel_rfl) (by kernel_rfl) (reads_any (byts_enc (k := 7) gB12_ (by omega) (by omega))) ?_
    rintro _ H41_ ⟨rfl, uH41_⟩
    have nH41_ := uH41_.n
    refine aops_go 2 60 (by kernel_rfl) ?_
    refine aops_end (by kernel_rfl) (then_normal ?_)
    refine aw_code f3bcacaacaacaacaaccc_eq ?_
    refine aw_cond (t := false) (by kernel_rfl) ?_
    refine aw_skip (blk_normal (then_normal ?_))
    refine aw_code f3bcacaacaacaacc_eq ?_
    refine aw_reg ?_
    refine aops_go 3 60 (by kernel_rfl) ?_
    refine aops_end (by kernel_rfl) (then_normal (hK6_ _ ?_))
    refine aw_loop_k fun K7_ hK7_ => ?_
    refine aw_code f3bcacaacaacaa_eq ?_
    refine aw_then ?_
    refine aw_code f3bcacaacaacaaa_eq ?_
    refine aw_then ?_
    refine aw_code f3bcacaacaacaaaa_eq ?_
    refine aw_reg ?_
    refine aops_go 2 60 (by kernel_rfl) ?_
    refine aops_end (by kernel_rfl) (then_normal ?_)
    refine aw_code f3bcacaacaacaaac_eq ?_
    refine aw_cond (t := true) (by kernel_rfl) ?_
    refine aw_skip (then_normal ?_)
    refine aw_code f3bcacaacaacaac_eq ?_
    refine aw_then ?_
    refine aw_code f3bcacaacaacaaca_eq ?_
    refine aw_block ?_
    refine aw_code f3bcacaacaacaacaa_eq ?_
    refine aw_then ?_
    refine aw_code f3bcacaacaacaacaaa_eq ?_
    refine aw_reg ?_
    refine aops_go 2 60 (by kernel_rfl) ?_
    obtain ⟨H42_, hH42_⟩ : ∃ x : Heap, x = H41_.push ⟨[Value.int .i64 0, .int .i64 0, .int .i64 0, .int .i64 0, .int .u32 0], 24, false⟩ := ⟨_, rfl⟩
    have nH42_ : H42_.n = H41_.n + 1 := by rw [hH42_]; rfl
    refine aops_val 3 (.pointer (some ⟨H41_.n, 0, none⟩)) H42_ (by kernel_rfl) (by kernel_rfl) (by kernel_rfl) ((by kernel_rfl : _ = some (Res.val (.pointer (some ⟨H41_.n, 0, none⟩)), H41_.push ⟨[Value.int .i64 0, .int .i64 0, .int .i64 0, .int .i64 0, .int .u32 0], 24, false⟩)).trans (by rw [← hH42_])) ?_
    have gH42_H41__n : H42_.get (H41_.n) = some ⟨[Value.int .i64 0, .int .i64 0, .int .i64 0, .int .i64 0, .int .u32 0], 24, false⟩ := by rw [hH42_]; exact (Heap.get_push _ _ _).trans (if_pos rfl)
    obtain ⟨H43_, hH43_⟩ : ∃ x : Heap, x = H42_.put (H41_.n) ⟨[Value.int .i64 op, .int .i64 0, .int .i64 0, .int .i64 0, .int .u32 0], 24, false⟩ := ⟨_, rfl⟩
    have nH43_ : H43_.n = H42_.n := by rw [hH43_]; rfl
    refine aops_skip H43_ (by kernel_rfl) (by kernel_rfl) (by kernel_rfl) ((by kernel_rfl : _ = skp (astore T14 24 (.pointer (some ⟨H41_.n, 0, none⟩)) (.agg #[.int .i64 op, .int .i64 0, .int .i64 0, .int .i64 0, .int .u32 0]) H42_)).trans (by rw [astore_to gH42_H41__n (by kernel_rfl), ← hH43_]; rfl)) ?_
    refine aops_end (by kernel_rfl) (then_normal ?_)
    refine aw_code f3bcacaacaacaacaac_eq ?_
    refine aw_then ?_
    refine aw_code f3bcacaacaacaacaaca_eq ?_
    refine aw_then ?_
    refine aw_code f3bcacaacaacaacaacaa_eq ?_
    refine aw_reg ?_
    refine aops_go 1 60 (by kernel_rfl) ?_
    refine aops_end (by kernel_rfl) (then_normal ?_)
    refine aw_code f3bcacaacaacaacaacac_eq ?_
    refine aw_block ?_
    refine aw_code f3bcacaacaacaacaacaca_eq ?_
    refine aw_then ?_
    refine aw_code f3bcacaacaacaacaacacaa_eq ?_
    refine aw_reg ?_
    refine aops_go 2 60 (by kernel_rfl) ?_
    refine aops_end (by kernel_rfl) (then_normal ?_)
    refine aw_code f3bcacaacaacaacaacacac_eq ?_
    refine aw_cond (t := false) (by kernel_rfl) ?_
    refine aw_code f3bcacaacaacaacaacacacc_eq ?_
    refine aw_then ?_
    refine aw_code f3bcacaacaacaacaacacacca_eq ?_
    refine aw_reg ?_
    refine aops_go 2 60 (by kernel_rfl) ?_
    refine aops_end (by kernel_rfl) (then_normal ?_)
    refine aw_code f3bcacaacaacaacaacacaccc_eq ?_
    refine aw_cond (t := false) (by kernel_rfl) ?_
    refine aw_code f3bcacaacaacaacaacacacccc_eq ?_
    refine aw_then ?_
    refine aw_code f3bcacaacaacaacaacacacccca_eq ?_
    refine aw_reg ?_
    refine aops_go 2 60 (by kernel_rfl) ?_
    refine aops_end (by kernel_rfl) (then_normal ?_)
    refine aw_code f3bcacaacaacaacaacacaccccc_eq ?_
    refine aw_cond (t := false) (by kernel_rfl) ?_
    refine aw_code f3bcacaacaacaacaacacacccccc_eq ?_
    refine aw_then ?_
    refine aw_code f3bcacaacaacaacaacacacccccca_eq ?_
    refine aw_reg ?_
    refine aops_go 2 60 (by kernel_rfl) ?_
    refine aops_end (by kernel_rfl) (then_normal ?_)
    refine aw_code f3bcacaacaacaacaacacaccccccc_eq ?_
    refine aw_cond (t := false) (by kernel_rfl) ?_
    refine aw_code f3bcacaacaacaacaacacacccccccc_eq ?_
    refine aw_then ?_
    refine aw_code f3bcacaacaacaacaacacacccccccca_eq ?_
    refine aw_reg ?_
    refine aops_go 2 60 (by kernel_rfl) ?_
    refine aops_end (by kernel_rfl) (then_normal ?_)
    refine aw_code f3bcacaacaacaacaacacaccccccccc_eq ?_
    refine aw_cond (t := false) (by kernel_rfl) ?_
    refine aw_code f3bcacaacaacaacaacacacccccccccc_eq ?_
    refine aw_then ?_
    refine aw_code f3bcacaacaacaacaacacacccccccccca_eq ?_
    refine aw_reg ?_
    refine aops_go 2 60 (by kernel_rfl) ?_
    refine aops_end (by kernel_rfl) (then_normal ?_)
    refine aw_code f3bcacaacaacaacaacacaccccccccccc_eq ?_
    refine aw_cond (t := true) (by kernel_rfl) ?_
    refine aw_code f3bcacaacaacaacaacacaccccccccccca_eq ?_
    refine aw_reg ?_
    refine aops_go 1 60 (by kernel_rfl) ?_
    have gH43_H41__n : H43_.get (H41_.n) = some ⟨[Value.int .i64 op, .int .i64 0, .int .i64 0, .int .i64 0, .int .u32 0], 24, false⟩ := by rw [hH43_]; exact (Heap.get_put _ _ _ _).trans (if_pos rfl)
    obtain ⟨H44_, hH44_⟩ : ∃ x : Heap, x = H43_.put (H41_.n) ⟨[Value.int .i64 op, .int .i64 0, .int .i64 (-1), .int .i64 0, .int .u32 0], 24, false⟩ := ⟨_, rfl⟩
    have nH44_ : H44_.n = H43_.n := by rw [hH44_]; rfl
    refine aops_skip H44_ (by kernel_rfl) (by kernel_rfl) (by kernel_rfl) ((by kernel_rfl : _ = skp (astore T14 3 (.pointer (some ⟨H41_.n, 2, none⟩)) (.int .i64 (-1)) H43_)).trans (by rw [astore_to gH43_H41__n (by kernel_rfl), ← hH44_]; rfl)) ?_
    refine aops_end (by kernel_rfl) (blk_normal (then_normal ?_))
    refine aw_code f3bcacaacaacaacaacc_eq ?_
    refine aw_then ?_
    refine aw_code f3bcacaacaacaacaacca_eq ?_
    refine aw_reg ?_
    have gH44_H41__n : H44_.get (H41_.n) = some ⟨[Value.int .i64 op, .int .i64 0, .int .i64 (-1), .int .i64 0, .int .u32 0], 24, false⟩ := by rw [hH44_]; exact (Heap.get_put _ _ _ _).trans (if_pos rfl)
    refine aops_val 47 (.agg #[.int .i64 op, .int .i64 0, .int .i64 (-1), .int .i64 0, .int .u32 0]) H44_ (by kernel_rfl) (by kernel_rfl) (by kernel_rfl) ((by kernel_rfl : _ = val (aload T14 24 (.pointer (some ⟨H41_.n, 0, none⟩)) H44_) H44_).trans (val_of ((aload_at gH44_H41__n).trans (by kernel_rfl)))) ?_
    refine aops_ask 48 (.bool true) 7 #[.agg #[.int .i64 op, .int .i64 0, .int .i64 (-1), .int .i64 0, .int .u32 0]] (by kernel_rfl) (by kernel_rfl) (by kernel_rfl) (by kernel_rfl) (orc7 op 0 (-1) 0 0 (by rfl)) ?_
    refine aops_go 2 60 (by kernel_rfl) ?_
    refine aops_val 51 (.agg #[.int .i64 op, .int .i64 0, .int .i64 (-1), .int .i64 0, .int .u32 0]) H44_ (by kernel_rfl) (by kernel_rfl) (by kernel_rfl) ((by kernel_rfl : _ = val (aload T14 24 (.pointer (some ⟨H41_.n, 0, none⟩)) H44_) H44_).trans (val_of ((aload_at gH44_H41__n).trans (by kernel_rfl)))) ?_
    refine aops_call_to 52 9 #[.agg #[.int .i64 op, .int .i64 0, .int .i64 (-1), .int .i64 0, .int .u32 0]] H44_ (by kernel_rfl) (by kernel_rfl) (fun v => (by kernel_rfl)) (by kernel_rfl) (by kernel_rfl) E.renc ?_
    rintro _ H45_ ⟨B13_, rfl, gB13_, hB13_, kB13_, uH45_⟩
    have nH45_ := uH45_.n
    refine aops_call_to 53 8 #[.slice (some ⟨B13_, 0, none⟩) 8 8] H45_ (by kernel_rfl) (by kernel_rfl) (fun v => (by kernel_rfl)) (by kernel_rfl) (by kernel_rfl) (reads_any (byts_enc (k := 8) gB13_ (by omega) (by omega))) ?_
    rintro _ H46_ ⟨rfl, uH46_⟩
    have nH46_ := uH46_.n
    refine aops_go 3 60 (by kernel_rfl) ?_
    have gH46_H41__n : H46_.get (H41_.n) = some ⟨[Value.int .i64 op, .int .i64 0, .int .i64 (-1), .int .i64 0, .int .u32 0], 24, false⟩ := by rw [uH46_.get _ (by omega)]; rw [uH45_.get _ (by omega)]; exact gH44_H41__n
    refine aops_val 57 (.agg #[.int .i64 op, .int .i64 0, .int .i64 (-1), .int .i64 0, .int .u32 0]) H46_ (by kernel_rfl) (by kernel_rfl) (by kernel_rfl) ((by kernel_rfl : _ = val (aload T14 24 (.pointer (some ⟨H41_.n, 0, none⟩)) H46_) H46_).trans (val_of ((aload_at gH46_H41__n).trans (by kernel_rfl)))) ?_
    refine aops_call_to 58 9 #[.agg #[.int .i64 op, .int .i64 0, .int .i64 (-1), .int .i64 0, .int .u32 0]] H46_ (by kernel_rfl) (by kernel_rfl) (fun v => (by kernel_rfl)) (by kernel_rfl) (by kernel_rfl) E.renc ?_
    rintro _ H47_ ⟨B14_, rfl, gB14_, hB14_, kB14_, uH47_⟩
    have nH47_ := uH47_.n
    refine aops_go 1 60 (by kernel_rfl) ?_
    refine aops_call_to 60 8 #[.slice (some ⟨B14_, 0, none⟩) 7 8] H47_ (by kernel_rfl) (by kernel_rfl) (fun v => (by kernel_rfl)) (by kernel_rfl) (by kernel_rfl) (reads_any (byts_enc (k := 7) gB14_ (by omega) (by omega))) ?_
    rintro _ H48_ ⟨rfl, uH48_⟩
    have nH48_ := uH48_.n
    refine aops_go 2 60 (by kernel_rfl) ?_
    refine aops_end (by kernel_rfl) (then_normal ?_)
    refine aw_code f3bcacaacaacaacaaccc_eq ?_
    refine aw_cond (t := false) (by kernel_rfl) ?_
    refine aw_skip (blk_normal (then_normal ?_))
    refine aw_code f3bcacaacaacaacc_eq ?_
    refine aw_reg ?_
    refine aops_go 3 60 (by kernel_rfl) ?_
    refine aops_end (by kernel_rfl) (then_normal (hK7_ _ ?_))
    refine aw_loop_k fun K8_ hK8_ => ?_
    refine aw_code f3bcacaacaacaa_eq ?_
    refine aw_then ?_
    refine aw_code f3bcacaacaacaaa_eq ?_
    refine aw_then ?_
    refine aw_code f3bcacaacaacaaaa_eq ?_
    refine aw_reg ?_
    refine aops_go 2 60 (by kernel_rfl) ?_
    refine aops_end (by kernel_rfl) (then_normal ?_)
    refine aw_code f3bcacaacaacaaac_eq ?_
    refine aw_cond (t := true) (by kernel_rfl) ?_
    refine aw_skip (then_normal ?_)
    refine aw_code f3bcacaacaacaac_eq ?_
    refine aw_then ?_
    refine aw_code f3bcacaacaacaaca_eq ?_
    refine aw_block ?_
    refine aw_code f3bcacaacaacaacaa_eq ?_
    refine aw_then ?_
    refine aw_code f3bcacaacaacaacaaa_eq ?_
    refine aw_reg ?_
    refine aops_go 2 60 (by kernel_rfl) ?_
    obtain ⟨H49_, hH49_⟩ : ∃ x : Heap, x = H48_.push ⟨[Value.int .i64 0, .int .i64 0, .int .i64 0, .int .i64 0, .int .u32 0], 24, false⟩ := ⟨_, rfl⟩
    have nH49_ : H49_.n = H48_.n + 1 := by rw [hH49_]; rfl
    refine aops_val 3 (.pointer (some ⟨H48_.n, 0, none⟩)) H49_ (by kernel_rfl) (by kernel_rfl) (by kernel_rfl) ((by kernel_rfl : _ = some (Res.val (.pointer (some ⟨H48_.n, 0, none⟩)), H48_.push ⟨[Value.int .i64 0, .int .i64 0, .int .i64 0, .int .i64 0, .int .u32 0], 24, false⟩)).trans (by rw [← hH49_])) ?_
    have gH49_H48__n : H49_.get (H48_.n) = some ⟨[Value.int .i64 0, .int .i64 0, .int .i64 0, .int .i64 0, .int .u32 0], 24, false⟩ := by rw [hH49_]; exact (Heap.get_push _ _ _).trans (if_pos rfl)
    obtain ⟨H50_, hH50_⟩ : ∃ x : Heap, x = H49_.put (H48_.n) ⟨[Value.int .i64 op, .int .i64 0, .int .i64 0, .int .i64 0, .int .u32 0], 24, false⟩ := ⟨_, rfl⟩
    have nH50_ : H50_.n = H49_.n := by rw [hH50_]; rfl
    refine aops_skip H50_ (by kernel_rfl) (by kernel_rfl) (by kernel_rfl) ((by kernel_rfl : _ = skp (astore T14 24 (.pointer (some ⟨H48_.n, 0, none⟩)) (.agg #[.int .i64 op, .int .i64 0, .int .i64 0, .int .i64 0, .int .u32 0]) H49_)).trans (by rw [astore_to gH49_H48__n (by kernel_rfl), ← hH50_]; rfl)) ?_
    refine aops_end (by kernel_rfl) (then_normal ?_)
    refine aw_code f3bcacaacaacaacaac_eq ?_
    refine aw_then ?_
    refine aw_code f3bcacaacaacaacaaca_eq ?_
    refine aw_then ?_
    refine aw_code f3bcacaacaacaacaacaa_eq ?_
    refine aw_reg ?_
    refine aops_go 1 60 (by kernel_rfl) ?_
    refine aops_end (by kernel_rfl) (then_normal ?_)
    refine aw_code f3bcacaacaacaacaacac_eq ?_
    refine aw_block ?_
    refine aw_code f3bcacaacaacaacaacaca_eq ?_
    refine aw_then ?_
    refine aw_code f3bcacaacaacaacaacacaa_eq ?_
    refine aw_reg ?_
    refine aops_go 2 60 (by kernel_rfl) ?_
    refine aops_end (by kernel_rfl) (then_normal ?_)
    refine aw_code f3bcacaacaacaacaacacac_eq ?_
    refine aw_cond (t := false) (by kernel_rfl) ?_
    refine aw_code f3bcacaacaacaacaacacacc_eq ?_
    refine aw_then ?_
    refine aw_code f3bcacaacaacaacaacacacca_eq ?_
    refine aw_reg ?_
    refine aops_go 2 60 (by kernel_rfl) ?_
    refine aops_end (by kernel_rfl) (then_normal ?_)
    refine aw_code f3bcacaacaacaacaacacaccc_eq ?_
    refine aw_cond (t := false) (by kernel_rfl) ?_
    refine aw_code f3bcacaacaacaacaacacacccc_eq ?_
    refine aw_then ?_
    refine aw_code f3bcacaacaacaacaacacacccca_eq ?_
    refine aw_reg ?_
    refine aops_go 2 60 (by kernel_rfl) ?_
    refine aops_end (by kernel_rfl) (then_normal ?_)
    refine aw_code f3bcacaacaacaacaacacaccccc_eq ?_
    refine aw_cond (t := false) (by kernel_rfl) ?_
    refine aw_code f3bcacaacaacaacaacacacccccc_eq ?_
    refine aw_then ?_
    refine aw_code f3bcacaacaacaacaacacacccccca_eq ?_
    refine aw_reg ?_
    refine aops_go 2 60 (by kernel_rfl) ?_
    refine aops_end (by kernel_rfl) (then_normal ?_)
    refine aw_code f3bcacaacaacaacaacacaccccccc_eq ?_
    refine aw_cond (t := false) (by kernel_rfl) ?_
    refine aw_code f3bcacaacaacaacaacacacccccccc_eq ?_
    refine aw_then ?_
    refine aw_code f3bcacaacaacaacaacacacccccccca_eq ?_
    refine aw_reg ?_
    refine aops_go 2 60 (by kernel_rfl) ?_
    refine aops_end (by kernel_rfl) (then_normal ?_)
    refine aw_code f3bcacaacaacaacaacacaccccccccc_eq ?_
    refine aw_cond (t := false) (by kernel_rfl) ?_
    refine aw_code f3bcacaacaacaacaacacacccccccccc_eq ?_
    refine aw_then ?_
    refine aw_code f3bcacaacaacaacaacacacccccccccca_eq ?_
    refine aw_reg ?_
    refine aops_go 2 60 (by kernel_rfl) ?_
    refine aops_end (by kernel_rfl) (then_normal ?_)
    refine aw_code f3bcacaacaacaacaacacaccccccccccc_eq ?_
    refine aw_cond (t := false) (by kernel_rfl) ?_
    refine aw_code f3bcacaacaacaacaacacacccccccccccc_eq ?_
    refine aw_then ?_
    refine aw_code f3bcacaacaacaacaacacacccccccccccca_eq ?_
    refine aw_reg ?_
    refine aops_go 2 60 (by kernel_rfl) ?_
    refine aops_end (by kernel_rfl) (then_normal ?_)
    refine aw_code f3bcacaacaacaacaacacaccccccccccccc_eq ?_
    refine aw_cond (t := true) (by kernel_rfl) ?_
    refine aw_code f3bcacaacaacaacaacacaccccccccccccca_eq ?_
    refine aw_reg ?_
    refine aops_go 1 60 (by kernel_rfl) ?_
    have gH50_H48__n : H50_.get (H48_.n) = some ⟨[Value.int .i64 op, .int .i64 0, .int .i64 0, .int .i64 0, .int .u32 0], 24, false⟩ := by rw [hH50_]; exact (Heap.get_put _ _ _ _).trans (if_pos rfl)
    obtain ⟨H51_, hH51_⟩ : ∃ x : Heap, x = H50_.put (H48_.n) ⟨[Value.int .i64 op, .int .i64 0, .int .i64 0, .int .i64 16, .int .u32 0], 24, false⟩ := ⟨_, rfl⟩
    have nH51_ : H51_.n = H50_.n := by rw [hH51_]; rfl
    refine aops_skip H51_ (by kernel_rfl) (by kernel_rfl) (by kernel_rfl) ((by kernel_rfl : _ = skp (astore T14 3 (.pointer (some ⟨H48_.n, 3, none⟩)) (.int .i64 16) H50_)).trans (by rw [astore_to gH50_H48__n (by kernel_rfl), ← hH51_]; rfl)) ?_
    refine aops_end (by kernel_rfl) (blk_normal (then_normal ?_))
    refine aw_code f3bcacaacaacaacaacc_eq ?_
    refine aw_then ?_
    refine aw_code f3bcacaacaacaacaacca_eq ?_
    refine aw_reg ?_
    have gH51_H48__n : H51_.get (H48_.n) = some ⟨[Value.int .i64 op, .int .i64 0, .int .i64 0, .int .i64 16, .int .u32 0], 24, false⟩ := by rw [hH51_]; exact (Heap.get_put _ _ _ _).trans (if_pos rfl)
    refine aops_val 47 (.agg #[.int .i64 op, .int .i64 0, .int .i64 0, .int .i64 16, .int .u32 0]) H51_ (by kernel_rfl) (by kernel_rfl) (by kernel_rfl) ((by kernel_rfl : _ = val (aload T14 24 (.pointer (some ⟨H48_.n, 0, none⟩)) H51_) H51_).trans (val_of ((aload_at gH51_H48__n).trans (by kernel_rfl)))) ?_
    refine aops_ask 48 (.bool true) 7 #[.agg #[.int .i64 op, .int .i64 0, .int .i64 0, .int .i64 16, .int .u32 0]] (by kernel_rfl) (by kernel_rfl) (by kernel_rfl) (by kernel_rfl) (orc7 op 0 0 16 0 (by rfl)) ?_
    refine aops_go 2 60 (by kernel_rfl) ?_
    refine aops_val 51 (.agg #[.int .i64 op, .int .i64 0, .int .i64 0, .int .i64 16, .int .u32 0]) H51_ (by kernel_rfl) (by kernel_rfl) (by kernel_rfl) ((by kernel_rfl : _ = val (aload T14 24 (.pointer (some ⟨H48_.n, 0, none⟩)) H51_) H51_).trans (val_of ((aload_at gH51_H48__n).trans (by kernel_rfl)))) ?_
    refine aops_call_to 52 9 #[.agg #[.int .i64 op, .int .i64 0, .int .i64 0, .int .i64 16, .int .u32 0]] H51_ (by kernel_rfl) (by kernel_rfl) (fun v => (by kernel_rfl)) (by kernel_rfl) (by kernel_rfl) E.renc ?_
    rintro _ H52_ ⟨B15_, rfl, gB15_, hB15_, kB15_, uH52_⟩
    have nH52_ := uH52_.n
    refine aops_call_to 53 8 #[.slice (some ⟨B15_, 0, none⟩) 8 8] H52_ (by kernel_rfl) (by kernel_rfl) (fun v => (by kernel_rfl)) (by kernel_rfl) (by kernel_rfl) (reads_any (byts_enc (k := 8) gB15_ (by omega) (by omega))) ?_
    rintro _ H53_ ⟨rfl, uH53_⟩
    have nH53_ := uH53_.n
    refine aops_go 3 60 (by kernel_rfl) ?_
    have gH53_H48__n : H53_.get (H48_.n) = some ⟨[Value.int .i64 op, .int .i64 0, .int .i64 0, .int .i64 16, .int .u32 0], 24, false⟩ := by rw [uH53_.get _ (by omega)]; rw [uH52_.get _ (by omega)]; exact gH51_H48__n
    refine aops_val 57 (.agg #[.int .i64 op, .int .i64 0, .int .i64 0, .int .i64 16, .int .u32 0]) H53_ (by kernel_rfl) (by kernel_rfl) (by kernel_rfl) ((by kernel_rfl : _ = val (aload T14 24 (.pointer (some ⟨H48_.n, 0, none⟩)) H53_) H53_).trans (val_of ((aload_at gH53_H48__n).trans (by kernel_rfl)))) ?_
    refine aops_call_to 58 9 #[.agg #[.int .i64 op, .int .i64 0, .int .i64 0, .int .i64 16, .int .u32 0]] H53_ (by kernel_rfl) (by kernel_rfl) (fun v => (by kernel_rfl)) (by kernel_rfl) (by kernel_rfl) E.renc ?_
    rintro _ H54_ ⟨B16_, rfl, gB16_, hB16_, kB16_, uH54_⟩
    have nH54_ := uH54_.n
    refine aops_go 1 60 (by kernel_rfl) ?_
    refine aops_call_to 60 8 #[.slice (some ⟨B16_, 0, none⟩) 7 8] H54_ (by kernel_rfl) (by kernel_rfl) (fun v => (by kernel_rfl)) (by kernel_rfl) (by kernel_rfl) (reads_any (byts_enc (k := 7) gB16_ (by omega) (by omega))) ?_
    rintro _ H55_ ⟨rfl, uH55_⟩
    have nH55_ := uH55_.n
    refine aops_go 2 60 (by kernel_rfl) ?_
    refine aops_end (by kernel_rfl) (then_normal ?_)
    refine aw_code f3bcacaacaacaacaaccc_eq ?_
    refine aw_cond (t := false) (by kernel_rfl) ?_
    refine aw_skip (blk_normal (then_normal ?_))
    refine aw_code f3bcacaacaacaacc_eq ?_
    refine aw_reg ?_
    refine aops_go 3 60 (by kernel_rfl) ?_
    refine aops_end (by kernel_rfl) (then_normal (hK8_ _ ?_))
    refine aw_loop_k fun K9_ hK9_ => ?_
    refine aw_code f3bcacaacaacaa_eq ?_
    refine aw_then ?_
    refine aw_code f3bcacaacaacaaa_eq ?_
    refine aw_then ?_
    refine aw_code f3bcacaacaacaaaa_eq ?_
    refine aw_reg ?_
    refine aops_go 2 60 (by kernel_rfl) ?_
    refine aops_end (by kernel_rfl) (then_normal ?_)
    refine aw_code f3bcacaacaacaaac_eq ?_
    refine aw_cond (t := true) (by kernel_rfl) ?_
    refine aw_skip (then_normal ?_)
    refine aw_code f3bcacaacaacaac_eq ?_
    refine aw_then ?_
    refine aw_code f3bcacaacaacaaca_eq ?_
    refine aw_block ?_
    refine aw_code f3bcacaacaacaacaa_eq ?_
    refine aw_then ?_
    refine aw_code f3bcacaacaacaacaaa_eq ?_
    refine aw_reg ?_
    refine aops_go 2 60 (by kernel_rfl) ?_
    obtain ⟨H56_, hH56_⟩ : ∃ x : Heap, x = H55_.push ⟨[Value.int .i64 0, .int .i64 0, .int .i64 0, .int .i64 0, .int .u32 0], 24, false⟩ := ⟨_, rfl⟩
    have nH56_ : H56_.n = H55_.n + 1 := by rw [hH56_]; rfl
    refine aops_val 3 (.pointer (some ⟨H55_.n, 0, none⟩)) H56_ (by kernel_rfl) (by kernel_rfl) (by kernel_rfl) ((by kernel_rfl : _ = some (Res.val (.pointer (some ⟨H55_.n, 0, none⟩)), H55_.push ⟨[Value.int .i64 0, .int .i64 0, .int .i64 0, .int .i64 0, .int .u32 0], 24, false⟩)).trans (by rw [← hH56_])) ?_
    have gH56_H55__n : H56_.get (H55_.n) = some ⟨[Value.int .i64 0, .int .i64 0, .int .i64 0, .int .i64 0, .int .u32 0], 24, false⟩ := by rw [hH56_]; exact (Heap.get_push _ _ _).trans (if_pos rfl)
    obtain ⟨H57_, hH57_⟩ : ∃ x : Heap, x = H56_.put (H55_.n) ⟨[Value.int .i64 op, .int .i64 0, .int .i64 0, .int .i64 0, .int .u32 0], 24, false⟩ := ⟨_, rfl⟩
    have nH57_ : H57_.n = H56_.n := by rw [hH57_]; rfl
    refine aops_skip H57_ (by kernel_rfl) (by kernel_rfl) (by kernel_rfl) ((by kernel_rfl : _ = skp (astore T14 24 (.pointer (some ⟨H55_.n, 0, none⟩)) (.agg #[.int .i64 op, .int .i64 0, .int .i64 0, .int .i64 0, .int .u32 0]) H56_)).trans (by rw [astore_to gH56_H55__n (by kernel_rfl), ← hH57_]; rfl)) ?_
    refine aops_end (by kernel_rfl) (then_normal ?_)
    refine aw_code f3bcacaacaacaacaac_eq ?_
    refine aw_then ?_
    refine aw_code f3bcacaacaacaacaaca_eq ?_
    refine aw_then ?_
    refine aw_code f3bcacaacaacaacaacaa_eq ?_
    refine aw_reg ?_
    refine aops_go 1 60 (by kernel_rfl) ?_
    refine aops_end (by kernel_rfl) (then_normal ?_)
    refine aw_code f3bcacaacaacaacaacac_eq ?_
    refine aw_block ?_
    refine aw_code f3bcacaacaacaacaacaca_eq ?_
    refine aw_then ?_
    refine aw_code f3bcacaacaacaacaacacaa_eq ?_
    refine aw_reg ?_
    refine aops_go 2 60 (by kernel_rfl) ?_
    refine aops_end (by kernel_rfl) (then_normal ?_)
    refine aw_code f3bcacaacaacaacaacacac_eq ?_
    refine aw_cond (t := false) (by kernel_rfl) ?_
    refine aw_code f3bcacaacaacaacaacacacc_eq ?_
    refine aw_then ?_
    refine aw_code f3bcacaacaacaacaacacacca_eq ?_
    refine aw_reg ?_
    refine aops_go 2 60 (by kernel_rfl) ?_
    refine aops_end (by kernel_rfl) (then_normal ?_)
    refine aw_code f3bcacaacaacaacaacacaccc_eq ?_
    refine aw_cond (t := false) (by kernel_rfl) ?_
    refine aw_code f3bcacaacaacaacaacacacccc_eq ?_
    refine aw_then ?_
    refine aw_code f3bcacaacaacaacaacacacccca_eq ?_
    refine aw_reg ?_
    refine aops_go 2 60 (by kernel_rfl) ?_
    refine aops_end (by kernel_rfl) (then_normal ?_)
    refine aw_code f3bcacaacaacaacaacacaccccc_eq ?_
    refine aw_cond (t := false) (by kernel_rfl) ?_
    refine aw_code f3bcacaacaacaacaacacacccccc_eq ?_
    refine aw_then ?_
    refine aw_code f3bcacaacaacaacaacacacccccca_eq ?_
    refine aw_reg ?_
    refine aops_go 2 60 (by kernel_rfl) ?_
    refine aops_end (by kernel_rfl) (then_normal ?_)
    refine aw_code f3bcacaacaacaacaacacaccccccc_eq ?_
    refine aw_cond (t := false) (by kernel_rfl) ?_
    refine aw_code f3bcacaacaacaacaacacacccccccc_eq ?_
    refine aw_then ?_
    refine aw_code f3bcacaacaacaacaacacacccccccca_eq ?_
    refine aw_reg ?_
    refine aops_go 2 60 (by kernel_rfl) ?_
    refine aops_end (by kernel_rfl) (then_normal ?_)
    refine aw_code f3bcacaacaacaacaacacaccccccccc_eq ?_
    refine aw_cond (t := false) (by kernel_rfl) ?_
    refine aw_code f3bcacaacaacaacaacacacccccccccc_eq ?_
    refine aw_then ?_
    refine aw_code f3bcacaacaacaacaacacacccccccccca_eq ?_
    refine aw_reg ?_
    refine aops_go 2 60 (by kernel_rfl) ?_
    refine aops_end (by kernel_rfl) (then_normal ?_)
    refine aw_code f3bcacaacaacaacaacacaccccccccccc_eq ?_
    refine aw_cond (t := false) (by kernel_rfl) ?_
    refine aw_code f3bcacaacaacaacaacacacccccccccccc_eq ?_
    refine aw_then ?_
    refine aw_code f3bcacaacaacaacaacacacccccccccccca_eq ?_
    refine aw_reg ?_
    refine aops_go 2 60 (by kernel_rfl) ?_
    refine aops_end (by kernel_rfl) (then_normal ?_)
    refine aw_code f3bcacaacaacaacaacacaccccccccccccc_eq ?_
    refine aw_cond (t := false) (by kernel_rfl) ?_
    refine aw_code f3bcacaacaacaacaacacacccccccccccccc_eq ?_
    refine aw_then ?_
    refine aw_code f3bcacaacaacaacaacacacccccccccccccca_eq ?_
    refine aw_reg ?_
    refine aops_go 2 60 (by kernel_rfl) ?_
    refine aops_end (by kernel_rfl) (then_normal ?_)
    refine aw_code f3bcacaacaacaacaacacaccccccccccccccc_eq ?_
    refine aw_cond (t := true) (by kernel_rfl) ?_
    refine aw_code f3bcacaacaacaacaacacaccccccccccccccca_eq ?_
    refine aw_reg ?_
    refine aops_go 2 60 (by kernel_rfl) ?_
    refine aops_ask 40 (.agg #[.int .i64 (op % 20), .int .i64 (pick0 (rdB (op % 20)) (3 % 16)), .int .i64 (pick0 (raB (op % 20)) (4 % 16)), .int .i64 (pick0 (rbB (op % 20)) (5 % 16)), .int .u32 (pick0 (imB (op % 20)) 70000)]) 6 #[.agg #[.int .i64 op, .int .i64 3, .int .i64 4, .int .i64 5, .int .u32 70000]] (by kernel_rfl) (by kernel_rfl) (by kernel_rfl) (by kernel_rfl) (orc6 op 3 4 5 70000 hI) ?_
    have gH57_H55__n : H57_.get (H55_.n) = some ⟨[Value.int .i64 op, .int .i64 0, .int .i64 0, .int .i64 0, .int .u32 0], 24, false⟩ := by rw [hH57_]; exact (Heap.get_put _ _ _ _).trans (if_pos rfl)
    obtain ⟨H58_, hH58_⟩ : ∃ x : Heap, x = H57_.put (H55_.n) ⟨[Value.int .i64 (op % 20), .int .i64 (pick0 (rdB (op % 20)) (3 % 16)), .int .i64 (pick0 (raB (op % 20)) (4 % 16)), .int .i64 (pick0 (rbB (op % 20)) (5 % 16)), .int .u32 (pick0 (imB (op % 20)) 70000)], 24, false⟩ := ⟨_, rfl⟩
    have nH58_ : H58_.n = H57_.n := by rw [hH58_]; rfl
    refine aops_skip H58_ (by kernel_rfl) (by kernel_rfl) (by kernel_rfl) ((by kernel_rfl : _ = skp (astore T14 24 (.pointer (some ⟨H55_.n, 0, none⟩)) (.agg #[.int .i64 (op % 20), .int .i64 (pick0 (rdB (op % 20)) (3 % 16)), .int .i64 (pick0 (raB (op % 20)) (4 % 16)), .int .i64 (pick0 (rbB (op % 20)) (5 % 16)), .int .u32 (pick0 (imB (op % 20)) 70000)]) H57_)).trans (by rw [astore_to gH57_H55__n (by kernel_rfl), ← hH58_]; rfl)) ?_
    refine aops_end (by kernel_rfl) (blk_normal (then_normal ?_))
    refine aw_code f3bcacaacaacaacaacc_eq ?_
    refine aw_then ?_
    refine aw_code f3bcacaacaacaacaacca_eq ?_
    refine aw_reg ?_
    have gH58_H55__n : H58_.get (H55_.n) = some ⟨[Value.int .i64 (op % 20), .int .i64 (pick0 (rdB (op % 20)) (3 % 16)), .int .i64 (pick0 (raB (op % 20)) (4 % 16)), .int .i64 (pick0 (rbB (op % 20)) (5 % 16)), .int .u32 (pick0 (imB (op % 20)) 70000)], 24, false⟩ := by rw [hH58_]; exact (Heap.get_put _ _ _ _).trans (if_pos rfl)
    refine aops_val 47 (.agg #[.int .i64 (op % 20), .int .i64 (pick0 (rdB (op % 20)) (3 % 16)), .int .i64 (pick0 (raB (op % 20)) (4 % 16)), .int .i64 (pick0 (rbB (op % 20)) (5 % 16)), .int .u32 (pick0 (imB (op % 20)) 70000)]) H58_ (by kernel_rfl) (by kernel_rfl) (by kernel_rfl) ((by kernel_rfl : _ = val (aload T14 24 (.pointer (some ⟨H55_.n, 0, none⟩)) H58_) H58_).trans (val_of ((aload_at gH58_H55__n).trans (by kernel_rfl)))) ?_
    refine aops_ask 48 (.bool true) 7 #[.agg #[.int .i64 (op % 20), .int .i64 (pick0 (rdB (op % 20)) (3 % 16)), .int .i64 (pick0 (raB (op % 20)) (4 % 16)), .int .i64 (pick0 (rbB (op % 20)) (5 % 16)), .int .u32 (pick0 (imB (op % 20)) 70000)]] (by kernel_rfl) (by kernel_rfl) (by kernel_rfl) (by kernel_rfl) (orc7 (op % 20) (pick0 (rdB (op % 20)) (3 % 16)) (pick0 (raB (op % 20)) (4 % 16)) (pick0 (rbB (op % 20)) (5 % 16)) (pick0 (imB (op % 20)) 70000) (pick0_u32 _ hu)) ?_
    refine aops_go 2 60 (by kernel_rfl) ?_
    refine aops_val 51 (.agg #[.int .i64 (op % 20), .int .i64 (pick0 (rdB (op % 20)) (3 % 16)), .int .i64 (pick0 (raB (op % 20)) (4 % 16)), .int .i64 (pick0 (rbB (op % 20)) (5 % 16)), .int .u32 (pick0 (imB (op % 20)) 70000)]) H58_ (by kernel_rfl) (by kernel_rfl) (by kernel_rfl) ((by kernel_rfl : _ = val (aload T14 24 (.pointer (some ⟨H55_.n, 0, none⟩)) H58_) H58_).trans (val_of ((aload_at gH58_H55__n).trans (by kernel_rfl)))) ?_
    refine aops_call_to 52 9 #[.agg #[.int .i64 (op % 20), .int .i64 (pick0 (rdB (op % 20)) (3 % 16)), .int .i64 (pick0 (raB (op % 20)) (4 % 16)), .int .i64 (pick0 (rbB (op % 20)) (5 % 16)), .int .u32 (pick0 (imB (op % 20)) 70000)]] H58_ (by kernel_rfl) (by kernel_rfl) (fun v => (by kernel_rfl)) (by kernel_rfl) (by kernel_rfl) E.renc ?_
    rintro _ H59_ ⟨B17_, rfl, gB17_, hB17_, kB17_, uH59_⟩
    have nH59_ := uH59_.n
    refine aops_call_to 53 8 #[.slice (some ⟨B17_, 0, none⟩) 8 8] H59_ (by kernel_rfl) (by kernel_rfl) (fun v => (by kernel_rfl)) (by kernel_rfl) (by kernel_rfl) (reads_any (byts_enc (k := 8) gB17_ (by omega) (by omega))) ?_
    rintro _ H60_ ⟨rfl, uH60_⟩
    have nH60_ := uH60_.n
    refine aops_go 3 60 (by kernel_rfl) ?_
    have gH60_H55__n : H60_.get (H55_.n) = some ⟨[Value.int .i64 (op % 20), .int .i64 (pick0 (rdB (op % 20)) (3 % 16)), .int .i64 (pick0 (raB (op % 20)) (4 % 16)), .int .i64 (pick0 (rbB (op % 20)) (5 % 16)), .int .u32 (pick0 (imB (op % 20)) 70000)], 24, false⟩ := by rw [uH60_.get _ (by omega)]; rw [uH59_.get _ (by omega)]; exact gH58_H55__n
    refine aops_val 57 (.agg #[.int .i64 (op % 20), .int .i64 (pick0 (rdB (op % 20)) (3 % 16)), .int .i64 (pick0 (raB (op % 20)) (4 % 16)), .int .i64 (pick0 (rbB (op % 20)) (5 % 16)), .int .u32 (pick0 (imB (op % 20)) 70000)]) H60_ (by kernel_rfl) (by kernel_rfl) (by kernel_rfl) ((by kernel_rfl : _ = val (aload T14 24 (.pointer (some ⟨H55_.n, 0, none⟩)) H60_) H60_).trans (val_of ((aload_at gH60_H55__n).trans (by kernel_rfl)))) ?_
    refine aops_call_to 58 9 #[.agg #[.int .i64 (op % 20), .int .i64 (pick0 (rdB (op % 20)) (3 % 16)), .int .i64 (pick0 (raB (op % 20)) (4 % 16)), .int .i64 (pick0 (rbB (op % 20)) (5 % 16)), .int .u32 (pick0 (imB (op % 20)) 70000)]] H60_ (by kernel_rfl) (by kernel_rfl) (fun v => (by kernel_rfl)) (by kernel_rfl) (by kernel_rfl) E.renc ?_
    rintro _ H61_ ⟨B18_, rfl, gB18_, hB18_, kB18_, uH61_⟩
    have nH61_ := uH61_.n
    refine aops_go 1 60 (by kernel_rfl) ?_
    refine aops_call_to 60 8 #[.slice (some ⟨B18_, 0, none⟩) 7 8] H61_ (by kernel_rfl) (by kernel_rfl) (fun v => (by kernel_rfl)) (by kernel_rfl) (by kernel_rfl) (reads_any (byts_enc (k := 7) gB18_ (by omega) (by omega))) ?_
    rintro _ H62_ ⟨rfl, uH62_⟩
    have nH62_ := uH62_.n
    refine aops_go 2 60 (by kernel_rfl) ?_
    refine aops_end (by kernel_rfl) (then_normal ?_)
    refine aw_code f3bcacaacaacaacaaccc_eq ?_
    refine aw_cond (t := false) (by kernel_rfl) ?_
    refine aw_skip (blk_normal (then_normal ?_))
    refine aw_code f3bcacaacaacaacc_eq ?_
    refine aw_reg ?_
    refine aops_go 3 60 (by kernel_rfl) ?_
    refine aops_end (by kernel_rfl) (then_normal (hK9_ _ ?_))
    refine aw_loop_k fun K10_ hK10_ => ?_
    refine aw_code f3bcacaacaacaa_eq ?_
    refine aw_then ?_
    refine aw_code f3bcacaacaacaaa_eq ?_
    refine aw_then ?_
    refine aw_code f3bcacaacaacaaaa_eq ?_
    refine aw_reg ?_
    refine aops_go 2 60 (by kernel_rfl) ?_
    refine aops_end (by kernel_rfl) (then_normal ?_)
    refine aw_code f3bcacaacaacaaac_eq ?_
    refine aw_cond (t := true) (by kernel_rfl) ?_
    refine aw_skip (then_normal ?_)
    refine aw_code f3bcacaacaacaac_eq ?_
    refine aw_then ?_
    refine aw_code f3bcacaacaacaaca_eq ?_
    refine aw_block ?_
    refine aw_code f3bcacaacaacaacaa_eq ?_
    refine aw_then ?_
    refine aw_code f3bcacaacaacaacaaa_eq ?_
    refine aw_reg ?_
    refine aops_go 2 60 (by kernel_rfl) ?_
    obtain ⟨H63_, hH63_⟩ : ∃ x : Heap, x = H62_.push ⟨[Value.int .i64 0, .int .i64 0, .int .i64 0, .int .i64 0, .int .u32 0], 24, false⟩ := ⟨_, rfl⟩
    have nH63_ : H63_.n = H62_.n + 1 := by rw [hH63_]; rfl
    refine aops_val 3 (.pointer (some ⟨H62_.n, 0, none⟩)) H63_ (by kernel_rfl) (by kernel_rfl) (by kernel_rfl) ((by kernel_rfl : _ = some (Res.val (.pointer (some ⟨H62_.n, 0, none⟩)), H62_.push ⟨[Value.int .i64 0, .int .i64 0, .int .i64 0, .int .i64 0, .int .u32 0], 24, false⟩)).trans (by rw [← hH63_])) ?_
    have gH63_H62__n : H63_.get (H62_.n) = some ⟨[Value.int .i64 0, .int .i64 0, .int .i64 0, .int .i64 0, .int .u32 0], 24, false⟩ := by rw [hH63_]; exact (Heap.get_push _ _ _).trans (if_pos rfl)
    obtain ⟨H64_, hH64_⟩ : ∃ x : Heap, x = H63_.put (H62_.n) ⟨[Value.int .i64 op, .int .i64 0, .int .i64 0, .int .i64 0, .int .u32 0], 24, false⟩ := ⟨_, rfl⟩
    have nH64_ : H64_.n = H63_.n := by rw [hH64_]; rfl
    refine aops_skip H64_ (by kernel_rfl) (by kernel_rfl) (by kernel_rfl) ((by kernel_rfl : _ = skp (astore T14 24 (.pointer (some ⟨H62_.n, 0, none⟩)) (.agg #[.int .i64 op, .int .i64 0, .int .i64 0, .int .i64 0, .int .u32 0]) H63_)).trans (by rw [astore_to gH63_H62__n (by kernel_rfl), ← hH64_]; rfl)) ?_
    refine aops_end (by kernel_rfl) (then_normal ?_)
    refine aw_code f3bcacaacaacaacaac_eq ?_
    refine aw_then ?_
    refine aw_code f3bcacaacaacaacaaca_eq ?_
    refine aw_then ?_
    refine aw_code f3bcacaacaacaacaacaa_eq ?_
    refine aw_reg ?_
    refine aops_go 1 60 (by kernel_rfl) ?_
    refine aops_end (by kernel_rfl) (then_normal ?_)
    refine aw_code f3bcacaacaacaacaacac_eq ?_
    refine aw_block ?_
    refine aw_code f3bcacaacaacaacaacaca_eq ?_
    refine aw_then ?_
    refine aw_code f3bcacaacaacaacaacacaa_eq ?_
    refine aw_reg ?_
    refine aops_go 2 60 (by kernel_rfl) ?_
    refine aops_end (by kernel_rfl) (then_normal ?_)
    refine aw_code f3bcacaacaacaacaacacac_eq ?_
    refine aw_cond (t := false) (by kernel_rfl) ?_
    refine aw_code f3bcacaacaacaacaacacacc_eq ?_
    refine aw_then ?_
    refine aw_code f3bcacaacaacaacaacacacca_eq ?_
    refine aw_reg ?_
    refine aops_go 2 60 (by kernel_rfl) ?_
    refine aops_end (by kernel_rfl) (then_normal ?_)
    refine aw_code f3bcacaacaacaacaacacaccc_eq ?_
    refine aw_cond (t := false) (by kernel_rfl) ?_
    refine aw_code f3bcacaacaacaacaacacacccc_eq ?_
    refine aw_then ?_
    refine aw_code f3bcacaacaacaacaacacacccca_eq ?_
    refine aw_reg ?_
    refine aops_go 2 60 (by kernel_rfl) ?_
    refine aops_end (by kernel_rfl) (then_normal ?_)
    refine aw_code f3bcacaacaacaacaacacaccccc_eq ?_
    refine aw_cond (t := false) (by kernel_rfl) ?_
    refine aw_code f3bcacaacaacaacaacacacccccc_eq ?_
    refine aw_then ?_
    refine aw_code f3bcacaacaacaacaacacacccccca_eq ?_
    refine aw_reg ?_
    refine aops_go 2 60 (by kernel_rfl) ?_
    refine aops_end (by kernel_rfl) (then_normal ?_)
    refine aw_code f3bcacaacaacaacaacacaccccccc_eq ?_
    refine aw_cond (t := false) (by kernel_rfl) ?_
    refine aw_code f3bcacaacaacaacaacacacccccccc_eq ?_
    refine aw_then ?_
    refine aw_code f3bcacaacaacaacaacacacccccccca_eq ?_
    refine aw_reg ?_
    refine aops_go 2 60 (by kernel_rfl) ?_
    refine aops_end (by kernel_rfl) (then_normal ?_)
    refine aw_code f3bcacaacaacaacaacacaccccccccc_eq ?_
    refine aw_cond (t := false) (by kernel_rfl) ?_
    refine aw_code f3bcacaacaacaacaacacacccccccccc_eq ?_
    refine aw_then ?_
    refine aw_code f3bcacaacaacaacaacacacccccccccca_eq ?_
    refine aw_reg ?_
    refine aops_go 2 60 (by kernel_rfl) ?_
    refine aops_end (by kernel_rfl) (then_normal ?_)
    refine aw_code f3bcacaacaacaacaacacaccccccccccc_eq ?_
    refine aw_cond (t := false) (by kernel_rfl) ?_
    refine aw_code f3bcacaacaacaacaacacacccccccccccc_eq ?_
    refine aw_then ?_
    refine aw_code f3bcacaacaacaacaacacacccccccccccca_eq ?_
    refine aw_reg ?_
    refine aops_go 2 60 (by kernel_rfl) ?_
    refine aops_end (by kernel_rfl) (then_normal ?_)
    refine aw_code f3bcacaacaacaacaacacaccccccccccccc_eq ?_
    refine aw_cond (t := false) (by kernel_rfl) ?_
    refine aw_code f3bcacaacaacaacaacacacccccccccccccc_eq ?_
    refine aw_then ?_
    refine aw_code f3bcacaacaacaacaacacacccccccccccccca_eq ?_
    refine aw_reg ?_
    refine aops_go 2 60 (by kernel_rfl) ?_
    refine aops_end (by kernel_rfl) (then_normal ?_)
    refine aw_code f3bcacaacaacaacaacacaccccccccccccccc_eq ?_
    refine aw_cond (t := false) (by kernel_rfl) ?_
    refine aw_code f3bcacaacaacaacaacacacccccccccccccccc_eq ?_
    refine aw_then ?_
    refine aw_code f3bcacaacaacaacaacacacccccccccccccccca_eq ?_
    refine aw_reg ?_
    refine aops_go 2 60 (by kernel_rfl) ?_
    refine aops_end (by kernel_rfl) (then_normal ?_)
    refine aw_code f3bcacaacaacaacaacacaccccccccccccccccc_eq ?_
    refine aw_cond (t := true) (by kernel_rfl) ?_
    refine aw_code f3bcacaacaacaacaacacaccccccccccccccccca_eq ?_
    refine aw_reg ?_
    refine aops_go 1 60 (by kernel_rfl) ?_
    have gH64_H62__n : H64_.get (H62_.n) = some ⟨[Value.int .i64 op, .int .i64 0, .int .i64 0, .int .i64 0, .int .u32 0], 24, false⟩ := by rw [hH64_]; exact (Heap.get_put _ _ _ _).trans (if_pos rfl)
    obtain ⟨H65_, hH65_⟩ : ∃ x : Heap, x = H64_.put (H62_.n) ⟨[Value.int .i64 op, .int .i64 1, .int .i64 0, .int .i64 0, .int .u32 0], 24, false⟩ := ⟨_, rfl⟩
    have nH65_ : H65_.n = H64_.n := by rw [hH65_]; rfl
    refine aops_skip H65_ (by kernel_rfl) (by kernel_rfl) (by kernel_rfl) ((by kernel_rfl : _ = skp (astore T14 3 (.pointer (some ⟨H62_.n, 1, none⟩)) (.int .i64 1) H64_)).trans (by rw [astore_to gH64_H62__n (by kernel_rfl), ← hH65_]; rfl)) ?_
    refine aops_go 1 60 (by kernel_rfl) ?_
    have gH65_H62__n : H65_.get (H62_.n) = some ⟨[Value.int .i64 op, .int .i64 1, .int .i64 0, .int .i64 0, .int .u32 0], 24, false⟩ := by rw [hH65_]; exact (Heap.get_put _ _ _ _).trans (if_pos rfl)
    obtain ⟨H66_, hH66_⟩ : ∃ x : Heap, x = H65_.put (H62_.n) ⟨[Value.int .i64 op, .int .i64 1, .int .i64 2, .int .i64 0, .int .u32 0], 24, false⟩ := ⟨_, rfl⟩
    have nH66_ : H66_.n = H65_.n := by rw [hH66_]; rfl
    refine aops_skip H66_ (by kernel_rfl) (by kernel_rfl) (by kernel_rfl) ((by kernel_rfl : _ = skp (astore T14 3 (.pointer (some ⟨H62_.n, 2, none⟩)) (.int .i64 2) H65_)).trans (by rw [astore_to gH65_H62__n (by kernel_rfl), ← hH66_]; rfl)) ?_
    refine aops_go 1 60 (by kernel_rfl) ?_
    have gH66_H62__n : H66_.get (H62_.n) = some ⟨[Value.int .i64 op, .int .i64 1, .int .i64 2, .int .i64 0, .int .u32 0], 24, false⟩ := by rw [hH66_]; exact (Heap.get_put _ _ _ _).trans (if_pos rfl)
    obtain ⟨H67_, hH67_⟩ : ∃ x : Heap, x = H66_.put (H62_.n) ⟨[Value.int .i64 op, .int .i64 1, .int .i64 2, .int .i64 3, .int .u32 0], 24, false⟩ := ⟨_, rfl⟩
    have nH67_ : H67_.n = H66_.n := by rw [hH67_]; rfl
    refine aops_skip H67_ (by kernel_rfl) (by kernel_rfl) (by kernel_rfl) ((by kernel_rfl : _ = skp (astore T14 3 (.pointer (some ⟨H62_.n, 3, none⟩)) (.int .i64 3) H66_)).trans (by rw [astore_to gH66_H62__n (by kernel_rfl), ← hH67_]; rfl)) ?_
    refine aops_go 1 60 (by kernel_rfl) ?_
    have gH67_H62__n : H67_.get (H62_.n) = some ⟨[Value.int .i64 op, .int .i64 1, .int .i64 2, .int .i64 3, .int .u32 0], 24, false⟩ := by rw [hH67_]; exact (Heap.get_put _ _ _ _).trans (if_pos rfl)
    obtain ⟨H68_, hH68_⟩ : ∃ x : Heap, x = H67_.put (H62_.n) ⟨[Value.int .i64 op, .int .i64 1, .int .i64 2, .int .i64 3, .int .u32 4], 24, false⟩ := ⟨_, rfl⟩
    have nH68_ : H68_.n = H67_.n := by rw [hH68_]; rfl
    refine aops_skip H68_ (by kernel_rfl) (by kernel_rfl) (by kernel_rfl) ((by kernel_rfl : _ = skp (astore T14 22 (.pointer (some ⟨H62_.n, 4, none⟩)) (.int .u32 4) H67_)).trans (by rw [astore_to gH67_H62__n (by kernel_rfl), ← hH68_]; rfl)) ?_
    refine aops_end (by kernel_rfl) (blk_normal (then_normal ?_))
    refine aw_code f3bcacaacaacaacaacc_eq ?_
    refine aw_then ?_
    refine aw_code f3bcacaacaacaacaacca_eq ?_
    refine aw_reg ?_
    have gH68_H62__n : H68_.get (H62_.n) = some ⟨[Value.int .i64 op, .int .i64 1, .int .i64 2, .int .i64 3, .int .u32 4], 24, false⟩ := by rw [hH68_]; exact (Heap.get_put _ _ _ _).trans (if_pos rfl)
    refine aops_val 47 (.agg #[.int .i64 op, .int .i64 1, .int .i64 2, .int .i64 3, .int .u32 4]) H68_ (by kernel_rfl) (by kernel_rfl) (by kernel_rfl) ((by kernel_rfl : _ = val (aload T14 24 (.pointer (some ⟨H62_.n, 0, none⟩)) H68_) H68_).trans (val_of ((aload_at gH68_H62__n).trans (by kernel_rfl)))) ?_
    refine aops_ask 48 (.bool true) 7 #[.agg #[.int .i64 op, .int .i64 1, .int .i64 2, .int .i64 3, .int .u32 4]] (by kernel_rfl) (by kernel_rfl) (by kernel_rfl) (by kernel_rfl) (orc7 op 1 2 3 4 (by rfl)) ?_
    refine aops_go 2 60 (by kernel_rfl) ?_
    refine aops_val 51 (.agg #[.int .i64 op, .int .i64 1, .int .i64 2, .int .i64 3, .int .u32 4]) H68_ (by kernel_rfl) (by kernel_rfl) (by kernel_rfl) ((by kernel_rfl : _ = val (aload T14 24 (.pointer (some ⟨H62_.n, 0, none⟩)) H68_) H68_).trans (val_of ((aload_at gH68_H62__n).trans (by kernel_rfl)))) ?_
    refine aops_call_to 52 9 #[.agg #[.int .i64 op, .int .i64 1, .int .i64 2, .int .i64 3, .int .u32 4]] H68_ (by kernel_rfl) (by kernel_rfl) (fun v => (by kernel_rfl)) (by kernel_rfl) (by kernel_rfl) E.renc ?_
    rintro _ H69_ ⟨B19_, rfl, gB19_, hB19_, kB19_, uH69_⟩
    have nH69_ := uH69_.n
    refine aops_call_to 53 8 #[.slice (some ⟨B19_, 0, none⟩) 8 8] H69_ (by kernel_rfl) (by kernel_rfl) (fun v => (by kernel_rfl)) (by kernel_rfl) (by kernel_rfl) (reads_any (byts_enc (k := 8) gB19_ (by omega) (by omega))) ?_
    rintro _ H70_ ⟨rfl, uH70_⟩
    have nH70_ := uH70_.n
    refine aops_go 3 60 (by kernel_rfl) ?_
    have gH70_H62__n : H70_.get (H62_.n) = some ⟨[Value.int .i64 op, .int .i64 1, .int .i64 2, .int .i64 3, .int .u32 4], 24, false⟩ := by rw [uH70_.get _ (by omega)]; rw [uH69_.get _ (by omega)]; exact gH68_H62__n
    refine aops_val 57 (.agg #[.int .i64 op, .int .i64 1, .int .i64 2, .int .i64 3, .int .u32 4]) H70_ (by kernel_rfl) (by kernel_rfl) (by kernel_rfl) ((by kernel_rfl : _ = val (aload T14 24 (.pointer (some ⟨H62_.n, 0, none⟩)) H70_) H70_).trans (val_of ((aload_at gH70_H62__n).trans (by kernel_rfl)))) ?_
    refine aops_call_to 58 9 #[.agg #[.int .i64 op, .int .i64 1, .int .i64 2, .int .i64 3, .int .u32 4]] H70_ (by kernel_rfl) (by kernel_rfl) (fun v => (by kernel_rfl)) (by kernel_rfl) (by kernel_rfl) E.renc ?_
    rintro _ H71_ ⟨B20_, rfl, gB20_, hB20_, kB20_, uH71_⟩
    have nH71_ := uH71_.n
    refine aops_go 1 60 (by kernel_rfl) ?_
    refine aops_call_to 60 8 #[.slice (some ⟨B20_, 0, none⟩) 7 8] H71_ (by kernel_rfl) (by kernel_rfl) (fun v => (by kernel_rfl)) (by kernel_rfl) (by kernel_rfl) (reads_any (byts_enc (k := 7) gB20_ (by omega) (by omega))) ?_
    rintro _ H72_ ⟨rfl, uH72_⟩
    have nH72_ := uH72_.n
    refine aops_go 2 60 (by kernel_rfl) ?_
    refine aops_end (by kernel_rfl) (then_normal ?_)
    refine aw_code f3bcacaacaacaacaaccc_eq ?_
    refine aw_cond (t := false) (by kernel_rfl) ?_
    refine aw_skip (blk_normal (then_normal ?_))
    refine aw_code f3bcacaacaacaacc_eq ?_
    refine aw_reg ?_
    refine aops_go 3 60 (by kernel_rfl) ?_
    refine aops_end (by kernel_rfl) (then_normal (hK10_ _ ?_))
    refine aw_loop_k fun K11_ hK11_ => ?_
    refine aw_code f3bcacaacaacaa_eq ?_
    refine aw_then ?_
    refine aw_code f3bcacaacaacaaa_eq ?_
    refine aw_then ?_
    refine aw_code f3bcacaacaacaaaa_eq ?_
    refine aw_reg ?_
    refine aops_go 2 60 (by kernel_rfl) ?_
    refine aops_end (by kernel_rfl) (then_normal ?_)
    refine aw_code f3bcacaacaacaaac_eq ?_
    refine aw_cond (t := false) (by kernel_rfl) ?_
    refine aw_exit (then_exit (then_exit (blk_hit (blk_normal (then_normal ?_)))))
    refine aw_code f3bcacaacc_eq ?_
    refine aw_reg ?_
    refine aops_go 2 60 (by kernel_rfl) ?_
    refine aops_see 7 (.int .i64 (op + 1)) (see_int (x := (IntKind.i64.wrap (op + 1))) (by kernel_rfl) (w64 (by omega) (by omega) (by omega))) ?_
    refine aops_go 1 60 (by kernel_rfl) ?_
    refine aops_end (by kernel_rfl) (then_normal ⟨(24 - (op + 1)).toNat, by omega, op + 1, H72_, rfl, by omega, by omega, ⟨by kernel_rfl, by kernel_rfl, True.intro⟩, by kernel_rfl⟩)
  · skip
    refine aw_code f3bcacaa_eq ?_
    refine aw_then ?_
    refine aw_code f3bcacaaa_eq ?_
    refine aw_then ?_
    refine aw_code f3bcacaaaa_eq ?_
    refine aw_reg ?_
    refine aops_go 2 60 (by kernel_rfl) ?_
    refine aops_end (by kernel_rfl) (then_normal ?_)
    refine aw_code f3bcacaaac_eq ?_
    refine aw_cond (t := false) (see_bool (by kernel_rfl) ((by simp; omega) : ((decide ((op : Int) < 24))) = false)) ?_
    refine aw_exit (then_exit (then_exit (blk_hit (then_normal ?_))))
    refine aw_code f3bcc_eq ?_
    refine aw_then ?_
    refine aw_code f3bcca_eq ?_
    refine aw_reg ?_
    refine aops_call_to 63 8 #[.slice none 0 0] H1 (by kernel_rfl) (by kernel_rfl) (fun v => (by kernel_rfl)) (by kernel_rfl) (by kernel_rfl) (reads_any (byts_nil H1 0)) ?_
    rintro _ H73_ ⟨rfl, uH73_⟩
    have nH73_ := uH73_.n
    refine aops_go 1 60 (by kernel_rfl) ?_
    obtain ⟨H74_, hH74_⟩ : ∃ x : Heap, x = H73_.push ⟨List.replicate 9 (.int .u8 0), 5, false⟩ := ⟨_, rfl⟩
    have nH74_ : H74_.n = H73_.n + 1 := by rw [hH74_]; rfl
    refine aops_val 65 (.slice (some ⟨H73_.n, 0, none⟩) 9 9) H74_ (by kernel_rfl) (by kernel_rfl) (by kernel_rfl) ((by kernel_rfl : _ = val2 (amakeSlice T14 28 (.int .i64 (Int.ofNat 9)) (.int .i64 (Int.ofNat 9)) H73_)).trans (by rw [amake_bytes 9 (by kernel_rfl) (by kernel_rfl) (by kernel_rfl) (by kernel_rfl) (by omega), ← hH74_]; rfl)) ?_
    have gH74_H73__n : H74_.get (H73_.n) = some ⟨(List.replicate 9 (.int .u8 0)), 5, false⟩ := by rw [hH74_]; exact (Heap.get_push _ _ _).trans (if_pos rfl)
    refine aops_call_to 66 8 #[.slice (some ⟨H73_.n, 0, none⟩) 9 9] H74_ (by kernel_rfl) (by kernel_rfl) (fun v => (by kernel_rfl)) (by kernel_rfl) (by kernel_rfl) (reads_any (zeros_byts gH74_H73__n (by omega))) ?_
    rintro _ H75_ ⟨rfl, uH75_⟩
    have nH75_ := uH75_.n
    refine aops_go 2 60 (by kernel_rfl) ?_
    refine aops_ask 69 (.bool true) 10 #[] (by kernel_rfl) (by kernel_rfl) (by kernel_rfl) (by kernel_rfl) (by kernel_rfl) ?_
    refine aops_go 2 60 (by kernel_rfl) ?_
    refine aops_end (by kernel_rfl) (then_normal ?_)
    refine aw_ret (bodyQ_ret_to (.bool true) H75_ (by kernel_rfl) (by kernel_rfl) ?_)
    rfl
noncomputable def f5b : Code := Tryd.f5.body.getD .skip
noncomputable def f5ba : Code := cl f5b
noncomputable def f5bao : Array Oper := opsOf f5ba
noncomputable def f5bc : Code := cr f5b
noncomputable def f5bca : Code := cl f5bc
noncomputable def f5bcao : Array Oper := opsOf f5bca
noncomputable def f5bcc : Code := cr f5bc
noncomputable def f5bcca : Code := cl f5bcc
noncomputable def f5bccao : Array Oper := opsOf f5bcca
noncomputable def f5bccc : Code := cr f5bcc
noncomputable def f5bccca : Code := cl f5bccc
noncomputable def f5bcccao : Array Oper := opsOf f5bccca
noncomputable def f5bcccc : Code := cr f5bccc
noncomputable def f5bcccca : Code := cl f5bcccc
noncomputable def f5bccccao : Array Oper := opsOf f5bcccca
theorem f5ba_eq : f5ba = .region 0 f5bao false := by kernel_rfl
theorem f5bca_eq : f5bca = .region 1 f5bcao true := by kernel_rfl
theorem f5bcca_eq : f5bcca = .region 2 f5bccao false := by kernel_rfl
theorem f5bccca_eq : f5bccca = .region 3 f5bcccao false := by kernel_rfl
theorem f5bcccca_eq : f5bcccca = .region 4 f5bccccao true := by kernel_rfl
theorem f5bcccc_eq : f5bcccc = .seq f5bcccca .ret := by kernel_rfl
theorem f5bccc_eq : f5bccc = .seq f5bccca f5bcccc := by kernel_rfl
theorem f5bcc_eq : f5bcc = .seq f5bcca f5bccc := by kernel_rfl
theorem f5bc_eq : f5bc = .seq f5bca f5bcc := by kernel_rfl
theorem f5b_eq : f5b = .seq f5ba f5bc := by kernel_rfl
theorem f5_body : Tryd.f5.body = some f5b := by kernel_rfl
theorem f5_fn : T14.fn 5 = some Tryd.f5 := by kernel_rfl
set_option maxHeartbeats 1000000 in
theorem texts_at {op rd ra rb im oq rd2 ra2 rb2 im2 x0 x1 x2 x3 x4 y0 y1 y2 y3 y4 : Int} {H : Heap} (mx : sp6 [.agg #[.int .i64 op, .int .i64 rd, .int .i64 ra, .int .i64 rb, .int .u32 im]] = some (.agg #[.int .i64 x0, .int .i64 x1, .int .i64 x2, .int .i64 x3, .int .u32 x4])) (my : sp6 [.agg #[.int .i64 oq, .int .i64 rd2, .int .i64 ra2, .int .i64 rb2, .int .u32 im2]] = some (.agg #[.int .i64 y0, .int .i64 y1, .int .i64 y2, .int .i64 y3, .int .u32 y4])) (hx : rightV x0 x1 x2 x3 x4 = true) (hy : rightV y0 y1 y2 y3 y4 = true) (ux : u32B x4 = true) (uy : u32B y4 = true) : ACall Tryd.prog T14 5 #[.agg #[.int .i64 op, .int .i64 rd, .int .i64 ra, .int .i64 rb, .int .u32 im], .agg #[.int .i64 oq, .int .i64 rd2, .int .i64 ra2, .int .i64 rb2, .int .u32 im2]] H fun r H' => r = .bool true := by
  refine acall_of' 56 (initTm 0 #[.agg #[.int .i64 op, .int .i64 rd, .int .i64 ra, .int .i64 rb, .int .u32 im], .agg #[.int .i64 oq, .int .i64 rd2, .int .i64 ra2, .int .i64 rb2, .int .u32 im2]]) rfl f5_fn f5_body rfl rfl ?_
  refine aw_code f5b_eq ?_
  refine aw_then ?_
  refine aw_code f5ba_eq ?_
  refine aw_reg ?_
  obtain ⟨H1_, hH1_⟩ : ∃ x : Heap, x = H.push ⟨[Value.int .i64 op, .int .i64 rd, .int .i64 ra, .int .i64 rb, .int .u32 im], 24, false⟩ := ⟨_, rfl⟩
  have nH1_ : H1_.n = H.n + 1 := by rw [hH1_]; rfl
  refine aops_val 2 (.pointer (some ⟨H.n, 0, none⟩)) H1_ (by kernel_rfl) (by kernel_rfl) (by kernel_rfl) ((by kernel_rfl : _ = some (Res.val (.pointer (some ⟨H.n, 0, none⟩)), H.push ⟨[Value.int .i64 op, .int .i64 rd, .int .i64 ra, .int .i64 rb, .int .u32 im], 24, false⟩)).trans (by rw [← hH1_])) ?_
  obtain ⟨H2_, hH2_⟩ : ∃ x : Heap, x = H1_.push ⟨[Value.int .i64 oq, .int .i64 rd2, .int .i64 ra2, .int .i64 rb2, .int .u32 im2], 24, false⟩ := ⟨_, rfl⟩
  have nH2_ : H2_.n = H1_.n + 1 := by rw [hH2_]; rfl
  refine aops_val 3 (.pointer (some ⟨H1_.n, 0, none⟩)) H2_ (by kernel_rfl) (by kernel_rfl) (by kernel_rfl) ((by kernel_rfl : _ = some (Res.val (.pointer (some ⟨H1_.n, 0, none⟩)), H1_.push ⟨[Value.int .i64 oq, .int .i64 rd2, .int .i64 ra2, .int .i64 rb2, .int .u32 im2], 24, false⟩)).trans (by rw [← hH2_])) ?_
  refine aops_go 1 60 (by kernel_rfl) ?_
  refine aops_end (by kernel_rfl) (then_normal ?_)
  refine aw_code f5bc_eq ?_
  refine aw_then ?_
  refine aw_code f5bca_eq ?_
  refine aw_drawU (H2_.n) ?_
  have gH2_H_n : H2_.get (H.n) = some ⟨[Value.int .i64 op, .int .i64 rd, .int .i64 ra, .int .i64 rb, .int .u32 im], 24, false⟩ := by rw [hH2_, Heap.get_push, if_neg (by omega)]; rw [hH1_]; exact (Heap.get_push _ _ _).trans (if_pos rfl)
  refine aopsU_look 11 (.agg #[.int .i64 op, .int .i64 rd, .int .i64 ra, .int .i64 rb, .int .u32 im]) (.pointer (some ⟨H.n, 0, none⟩)) (.tmp 2) H2_ (by kernel_rfl) (by kernel_rfl) (by kernel_rfl) (by kernel_rfl) (by kernel_rfl) (by kernel_rfl) ((by kernel_rfl : _ = aload T14 24 (.pointer (some ⟨H.n, 0, none⟩)) H2_).trans ((aload_at gH2_H_n).trans (by kernel_rfl))) (by simp [veq, veqs, veq0]) (lowB_ptr (by omega)) ((by kernel_rfl : _ = val (aload T14 24 (.pointer (some ⟨H.n, 0, none⟩)) H2_) H2_).trans (val_to ((aload_at gH2_H_n).trans (by kernel_rfl)) (by kernel_rfl))) ?_
  refine aopsU_ask 12 (.agg #[.int .i64 x0, .int .i64 x1, .int .i64 x2, .int .i64 x3, .int .u32 x4]) 6 #[.agg #[.int .i64 op, .int .i64 rd, .int .i64 ra, .int .i64 rb, .int .u32 im]] (by kernel_rfl) (by kernel_rfl) (by kernel_rfl) (by kernel_rfl) mx ?_
  have gH2_H1__n : H2_.get (H1_.n) = some ⟨[Value.int .i64 oq, .int .i64 rd2, .int .i64 ra2, .int .i64 rb2, .int .u32 im2], 24, false⟩ := by rw [hH2_]; exact (Heap.get_push _ _ _).trans (if_pos rfl)
  refine aopsU_look 13 (.agg #[.int .i64 oq, .int .i64 rd2, .int .i64 ra2, .int .i64 rb2, .int .u32 im2]) (.pointer (some ⟨H1_.n, 0, none⟩)) (.tmp 3) H2_ (by kernel_rfl) (by kernel_rfl) (by kernel_rfl) (by kernel_rfl) (by kernel_rfl) (by kernel_rfl) ((by kernel_rfl : _ = aload T14 24 (.pointer (some ⟨H1_.n, 0, none⟩)) H2_).trans ((aload_at gH2_H1__n).trans (by kernel_rfl))) (by simp [veq, veqs, veq0]) (lowB_ptr (by omega)) ((by kernel_rfl : _ = val (aload T14 24 (.pointer (some ⟨H1_.n, 0, none⟩)) H2_) H2_).trans (val_to ((aload_at gH2_H1__n).trans (by kernel_rfl)) (by kernel_rfl))) ?_
  refine aopsU_ask 14 (.agg #[.int .i64 y0, .int .i64 y1, .int .i64 y2, .int .i64 y3, .int .u32 y4]) 6 #[.agg #[.int .i64 oq, .int .i64 rd2, .int .i64 ra2, .int .i64 rb2, .int .u32 im2]] (by kernel_rfl) (by kernel_rfl) (by kernel_rfl) (by kernel_rfl) my ?_
  obtain ⟨H3_, hH3_⟩ : ∃ x : Heap, x = H2_.push ⟨[Value.int .i64 0, .int .i64 0, .int .i64 0, .int .i64 0, .int .u32 0], 24, false⟩ := ⟨_, rfl⟩
  have nH3_ : H3_.n = H2_.n + 1 := by rw [hH3_]; rfl
  refine aopsU_mk 5 (.pointer (some ⟨H2_.n, 0, none⟩)) H2_ H3_ (by kernel_rfl) (by kernel_rfl) (by kernel_rfl) (by kernel_rfl) ((by kernel_rfl : _ = some (Res.val (.pointer (some ⟨H2_.n, 0, none⟩)), H2_.push ⟨[Value.int .i64 0, .int .i64 0, .int .i64 0, .int .i64 0, .int .u32 0], 24, false⟩)).trans (by rw [← hH3_])) (by kernel_rfl) (hH3_ ▸ Up.push (by omega) (Up.refl _) _) ?_
  obtain ⟨H4_, hH4_⟩ : ∃ x : Heap, x = H3_.push ⟨[Value.int .i64 0, .int .i64 0, .int .i64 0, .int .i64 0, .int .u32 0], 24, false⟩ := ⟨_, rfl⟩
  have nH4_ : H4_.n = H3_.n + 1 := by rw [hH4_]; rfl
  refine aopsU_mk 6 (.pointer (some ⟨H3_.n, 0, none⟩)) H3_ H4_ (by kernel_rfl) (by kernel_rfl) (by kernel_rfl) (by kernel_rfl) ((by kernel_rfl : _ = some (Res.val (.pointer (some ⟨H3_.n, 0, none⟩)), H3_.push ⟨[Value.int .i64 0, .int .i64 0, .int .i64 0, .int .i64 0, .int .u32 0], 24, false⟩)).trans (by rw [← hH4_])) (by kernel_rfl) (hH4_ ▸ Up.push (by omega) (Up.refl _) _) ?_
  have gH4_H2__n : H4_.get (H2_.n) = some ⟨[Value.int .i64 0, .int .i64 0, .int .i64 0, .int .i64 0, .int .u32 0], 24, false⟩ := by rw [hH4_, Heap.get_push, if_neg (by omega)]; rw [hH3_]; exact (Heap.get_push _ _ _).trans (if_pos rfl)
  obtain ⟨H5_, hH5_⟩ : ∃ x : Heap, x = H4_.put (H2_.n) ⟨[Value.int .i64 x0, .int .i64 x1, .int .i64 x2, .int .i64 x3, .int .u32 x4], 24, false⟩ := ⟨_, rfl⟩
  have nH5_ : H5_.n = H4_.n := by rw [hH5_]; rfl
  refine aopsU_skip H4_ H5_ (by kernel_rfl) (by kernel_rfl) (by kernel_rfl) ((by kernel_rfl : _ = skp (astore T14 24 (.pointer (some ⟨H2_.n, 0, none⟩)) (.agg #[.int .i64 x0, .int .i64 x1, .int .i64 x2, .int .i64 x3, .int .u32 x4]) H4_)).trans (by rw [astore_to gH4_H2__n (by kernel_rfl), ← hH5_]; rfl)) (by kernel_rfl) (hH5_ ▸ Up.put (Up.refl _) (by omega) _) ?_
  have gH5_H3__n : H5_.get (H3_.n) = some ⟨[Value.int .i64 0, .int .i64 0, .int .i64 0, .int .i64 0, .int .u32 0], 24, false⟩ := by rw [hH5_, Heap.get_put, if_neg (by omega)]; rw [hH4_]; exact (Heap.get_push _ _ _).trans (if_pos rfl)
  obtain ⟨H6_, hH6_⟩ : ∃ x : Heap, x = H5_.put (H3_.n) ⟨[Value.int .i64 y0, .int .i64 y1, .int .i64 y2, .int .i64 y3, .int .u32 y4], 24, false⟩ := ⟨_, rfl⟩
  have nH6_ : H6_.n = H5_.n := by rw [hH6_]; rfl
  refine aopsU_skip H5_ H6_ (by kernel_rfl) (by kernel_rfl) (by kernel_rfl) ((by kernel_rfl : _ = skp (astore T14 24 (.pointer (some ⟨H3_.n, 0, none⟩)) (.agg #[.int .i64 y0, .int .i64 y1, .int .i64 y2, .int .i64 y3, .int .u32 y4]) H5_)).trans (by rw [astore_to gH5_H3__n (by kernel_rfl), ← hH6_]; rfl)) (by kernel_rfl) (hH6_ ▸ Up.put (Up.refl _) (by omega) _) ?_
  refine aopsU_end (by kernel_rfl) (then_normal ?_)
  refine aw_code f5bcc_eq ?_
  refine aw_then ?_
  refine aw_code f5bcca_eq ?_
  refine aw_reg ?_
  have gH6_H2__n : H6_.get (H2_.n) = some ⟨[Value.int .i64 x0, .int .i64 x1, .int .i64 x2, .int .i64 x3, .int .u32 x4], 24, false⟩ := by rw [hH6_, Heap.get_put, if_neg (by omega)]; rw [hH5_]; exact (Heap.get_put _ _ _ _).trans (if_pos rfl)
  refine aops_val 16 (.agg #[.int .i64 x0, .int .i64 x1, .int .i64 x2, .int .i64 x3, .int .u32 x4]) H6_ (by kernel_rfl) (by kernel_rfl) (by kernel_rfl) ((by kernel_rfl : _ = val (aload T14 24 (.pointer (some ⟨H2_.n, 0, none⟩)) H6_) H6_).trans (val_of ((aload_at gH6_H2__n).trans (by kernel_rfl)))) ?_
  refine aops_call_to 17 12 #[.agg #[.int .i64 x0, .int .i64 x1, .int .i64 x2, .int .i64 x3, .int .u32 x4]] H6_ (by kernel_rfl) (by kernel_rfl) (fun v => (by kernel_rfl)) (by kernel_rfl) (by kernel_rfl) (E.enc_ok hx) ?_
  rintro _ H7_ ⟨Bx, rfl, gBx, hBx, kBx, uH7_⟩
  have nH7_ := uH7_.n
  refine aops_go 5 60 (by kernel_rfl) ?_
  refine aops_end (by kernel_rfl) (then_normal ?_)
  refine aw_code f5bccc_eq ?_
  refine aw_then ?_
  refine aw_code f5bccca_eq ?_
  refine aw_reg ?_
  have gH7_H3__n : H7_.get (H3_.n) = some ⟨[Value.int .i64 y0, .int .i64 y1, .int .i64 y2, .int .i64 y3, .int .u32 y4], 24, false⟩ := by rw [uH7_.get _ (by omega)]; rw [hH6_]; exact (Heap.get_put _ _ _ _).trans (if_pos rfl)
  refine aops_val 21 (.agg #[.int .i64 y0, .int .i64 y1, .int .i64 y2, .int .i64 y3, .int .u32 y4]) H7_ (by kernel_rfl) (by kernel_rfl) (by kernel_rfl) ((by kernel_rfl : _ = val (aload T14 24 (.pointer (some ⟨H3_.n, 0, none⟩)) H7_) H7_).trans (val_of ((aload_at gH7_H3__n).trans (by kernel_rfl)))) ?_
  refine aops_call_to 22 12 #[.agg #[.int .i64 y0, .int .i64 y1, .int .i64 y2, .int .i64 y3, .int .u32 y4]] H7_ (by kernel_rfl) (by kernel_rfl) (fun v => (by kernel_rfl)) (by kernel_rfl) (by kernel_rfl) (E.enc_ok hy) ?_
  rintro _ H8_ ⟨By, rfl, gBy, hBy, kBy, uH8_⟩
  have nH8_ := uH8_.n
  refine aops_go 5 60 (by kernel_rfl) ?_
  refine aops_end (by kernel_rfl) (then_normal ?_)
  refine aw_code f5bcccc_eq ?_
  refine aw_then ?_
  refine aw_code f5bcccca_eq ?_
  refine aw_drawU (H8_.n) ?_
  refine aopsU_go 8 (by kernel_rfl) ?_
  have gH8_Bx : H8_.get (Bx) = some ⟨(enc8 x0 x1 x2 x3 x4), 5, false⟩ := by rw [uH8_.get _ (by omega)]; exact gBx
  refine aopsU_look 33 (.string (bstr (enc8 x0 x1 x2 x3 x4))) (.slice (some ⟨Bx, 0, none⟩) 8 (unk + 1)) (.tmp 32) H8_ (by kernel_rfl) (by kernel_rfl) (by kernel_rfl) (by kernel_rfl) (by kernel_rfl) (by kernel_rfl) ((by kernel_rfl : _ = aconvert T14 28 9 (.slice (some ⟨Bx, 0, none⟩) 8 (unk + 1)) H8_).trans (aconv_at (T := T14) (s := 28) (d := 9) (e := 5) (off := 0) (n := 8) (cap := unk + 1) (by kernel_rfl) (by kernel_rfl) (by kernel_rfl) (l := (enc8 x0 x1 x2 x3 x4)) gH8_Bx rfl rfl (bytes_enc x0 x1 x2 x3 x4))) (by simp [veq, veq0]) (lowB_slice (by omega)) (ha_cv (H := H8_) (s := 28) (d := 9) (x := .tmp 32) (u := .slice (some ⟨Bx, 0, none⟩) 8 (unk + 1)) (by kernel_rfl) (by kernel_rfl) (by kernel_rfl) (aconv_at (T := T14) (s := 28) (d := 9) (e := 5) (off := 0) (n := 8) (cap := unk + 1) (by kernel_rfl) (by kernel_rfl) (by kernel_rfl) (l := (enc8 x0 x1 x2 x3 x4)) gH8_Bx rfl rfl (bytes_enc x0 x1 x2 x3 x4)) (by kernel_rfl)) ?_
  refine aopsU_go 1 (by kernel_rfl) ?_
  refine aopsU_look 35 (.string (bstr (enc8 y0 y1 y2 y3 y4))) (.slice (some ⟨By, 0, none⟩) 8 (unk + 1)) (.tmp 34) H8_ (by kernel_rfl) (by kernel_rfl) (by kernel_rfl) (by kernel_rfl) (by kernel_rfl) (by kernel_rfl) ((by kernel_rfl : _ = aconvert T14 28 9 (.slice (some ⟨By, 0, none⟩) 8 (unk + 1)) H8_).trans (aconv_at (T := T14) (s := 28) (d := 9) (e := 5) (off := 0) (n := 8) (cap := unk + 1) (by kernel_rfl) (by kernel_rfl) (by kernel_rfl) (l := (enc8 y0 y1 y2 y3 y4)) gBy rfl rfl (bytes_enc y0 y1 y2 y3 y4))) (by simp [veq, veq0]) (lowB_slice (by omega)) (ha_cv (H := H8_) (s := 28) (d := 9) (x := .tmp 34) (u := .slice (some ⟨By, 0, none⟩) 8 (unk + 1)) (by kernel_rfl) (by kernel_rfl) (by kernel_rfl) (aconv_at (T := T14) (s := 28) (d := 9) (e := 5) (off := 0) (n := 8) (cap := unk + 1) (by kernel_rfl) (by kernel_rfl) (by kernel_rfl) (l := (enc8 y0 y1 y2 y3 y4)) gBy rfl rfl (bytes_enc y0 y1 y2 y3 y4)) (by kernel_rfl)) ?_
  refine aopsU_pt 36 (.bool (decide ((bstr (enc8 x0 x1 x2 x3 x4)) = (bstr (enc8 y0 y1 y2 y3 y4))))) (by kernel_rfl) (by kernel_rfl) (by kernel_rfl) (by kernel_rfl) (ha_fb (op := .eql) (t := 9) (a := .tmp 33) (b := .tmp 35) (u := .string (bstr (enc8 x0 x1 x2 x3 x4))) (v := .string (bstr (enc8 y0 y1 y2 y3 y4))) (by kernel_rfl) (by kernel_rfl) (by kernel_rfl) rfl rfl rfl (seq_run rfl) rfl) ?_
  have gH8_H2__n : H8_.get (H2_.n) = some ⟨[Value.int .i64 x0, .int .i64 x1, .int .i64 x2, .int .i64 x3, .int .u32 x4], 24, false⟩ := by rw [uH8_.get _ (by omega)]; rw [uH7_.get _ (by omega)]; exact gH6_H2__n
  refine aopsU_look 37 (.agg #[.int .i64 x0, .int .i64 x1, .int .i64 x2, .int .i64 x3, .int .u32 x4]) (.pointer (some ⟨H2_.n, 0, none⟩)) (.tmp 5) H8_ (by kernel_rfl) (by kernel_rfl) (by kernel_rfl) (by kernel_rfl) (by kernel_rfl) (by kernel_rfl) ((by kernel_rfl : _ = aload T14 24 (.pointer (some ⟨H2_.n, 0, none⟩)) H8_).trans ((aload_at gH8_H2__n).trans (by kernel_rfl))) (by simp [veq, veqs, veq0]) (lowB_ptr (by omega)) ((by kernel_rfl : _ = val (aload T14 24 (.pointer (some ⟨H2_.n, 0, none⟩)) H8_) H8_).trans (val_to ((aload_at gH8_H2__n).trans (by kernel_rfl)) (by kernel_rfl))) ?_
  have gH8_H3__n : H8_.get (H3_.n) = some ⟨[Value.int .i64 y0, .int .i64 y1, .int .i64 y2, .int .i64 y3, .int .u32 y4], 24, false⟩ := by rw [uH8_.get _ (by omega)]; exact gH7_H3__n
  refine aopsU_look 38 (.agg #[.int .i64 y0, .int .i64 y1, .int .i64 y2, .int .i64 y3, .int .u32 y4]) (.pointer (some ⟨H3_.n, 0, none⟩)) (.tmp 6) H8_ (by kernel_rfl) (by kernel_rfl) (by kernel_rfl) (by kernel_rfl) (by kernel_rfl) (by kernel_rfl) ((by kernel_rfl : _ = aload T14 24 (.pointer (some ⟨H3_.n, 0, none⟩)) H8_).trans ((aload_at gH8_H3__n).trans (by kernel_rfl))) (by simp [veq, veqs, veq0]) (lowB_ptr (by omega)) ((by kernel_rfl : _ = val (aload T14 24 (.pointer (some ⟨H3_.n, 0, none⟩)) H8_) H8_).trans (val_to ((aload_at gH8_H3__n).trans (by kernel_rfl)) (by kernel_rfl))) ?_
  refine aopsU_go 2 (by kernel_rfl) ?_
  refine aopsU_see 40 (.bool true) (see_bool (by kernel_rfl) (enc_eq hx hy ux uy)) ?_
  refine aopsU_go 2 (by kernel_rfl) ?_
  refine aopsU_look 43 (.agg #[.int .i64 x0, .int .i64 x1, .int .i64 x2, .int .i64 x3, .int .u32 x4]) (.pointer (some ⟨H2_.n, 0, none⟩)) (.tmp 5) H8_ (by kernel_rfl) (by kernel_rfl) (by kernel_rfl) (by kernel_rfl) (by kernel_rfl) (by kernel_rfl) ((by kernel_rfl : _ = aload T14 24 (.pointer (some ⟨H2_.n, 0, none⟩)) H8_).trans ((aload_at gH8_H2__n).trans (by kernel_rfl))) (by simp [veq, veqs, veq0]) (lowB_ptr (by omega)) ((by kernel_rfl : _ = val (aload T14 24 (.pointer (some ⟨H2_.n, 0, none⟩)) H8_) H8_).trans (val_to ((aload_at gH8_H2__n).trans (by kernel_rfl)) (by kernel_rfl))) ?_
  refine aopsU_ask 44 (.string (textV x0 x1 x2 x3 x4)) 13 #[.agg #[.int .i64 x0, .int .i64 x1, .int .i64 x2, .int .i64 x3, .int .u32 x4]] (by kernel_rfl) (by kernel_rfl) (by kernel_rfl) (by kernel_rfl) (orc13 x0 x1 x2 x3 x4 ux) ?_
  refine aopsU_look 45 (.agg #[.int .i64 y0, .int .i64 y1, .int .i64 y2, .int .i64 y3, .int .u32 y4]) (.pointer (some ⟨H3_.n, 0, none⟩)) (.tmp 6) H8_ (by kernel_rfl) (by kernel_rfl) (by kernel_rfl) (by kernel_rfl) (by kernel_rfl) (by kernel_rfl) ((by kernel_rfl : _ = aload T14 24 (.pointer (some ⟨H3_.n, 0, none⟩)) H8_).trans ((aload_at gH8_H3__n).trans (by kernel_rfl))) (by simp [veq, veqs, veq0]) (lowB_ptr (by omega)) ((by kernel_rfl : _ = val (aload T14 24 (.pointer (some ⟨H3_.n, 0, none⟩)) H8_) H8_).trans (val_to ((aload_at gH8_H3__n).trans (by kernel_rfl)) (by kernel_rfl))) ?_
  refine aopsU_ask 46 (.string (textV y0 y1 y2 y3 y4)) 13 #[.agg #[.int .i64 y0, .int .i64 y1, .int .i64 y2, .int .i64 y3, .int .u32 y4]] (by kernel_rfl) (by kernel_rfl) (by kernel_rfl) (by kernel_rfl) (orc13 y0 y1 y2 y3 y4 uy) ?_
  refine aopsU_pt 47 (.bool (decide ((textV x0 x1 x2 x3 x4) = (textV y0 y1 y2 y3 y4)))) (by kernel_rfl) (by kernel_rfl) (by kernel_rfl) (by kernel_rfl) (ha_fb (op := .eql) (t := 9) (a := .tmp 44) (b := .tmp 46) (u := .string (textV x0 x1 x2 x3 x4)) (v := .string (textV y0 y1 y2 y3 y4)) (by kernel_rfl) (by kernel_rfl) (by kernel_rfl) rfl rfl rfl (seq_run rfl) rfl) ?_
  refine aopsU_look 48 (.agg #[.int .i64 x0, .int .i64 x1, .int .i64 x2, .int .i64 x3, .int .u32 x4]) (.pointer (some ⟨H2_.n, 0, none⟩)) (.tmp 5) H8_ (by kernel_rfl) (by kernel_rfl) (by kernel_rfl) (by kernel_rfl) (by kernel_rfl) (by kernel_rfl) ((by kernel_rfl : _ = aload T14 24 (.pointer (some ⟨H2_.n, 0, none⟩)) H8_).trans ((aload_at gH8_H2__n).trans (by kernel_rfl))) (by simp [veq, veqs, veq0]) (lowB_ptr (by omega)) ((by kernel_rfl : _ = val (aload T14 24 (.pointer (some ⟨H2_.n, 0, none⟩)) H8_) H8_).trans (val_to ((aload_at gH8_H2__n).trans (by kernel_rfl)) (by kernel_rfl))) ?_
  refine aopsU_look 49 (.agg #[.int .i64 y0, .int .i64 y1, .int .i64 y2, .int .i64 y3, .int .u32 y4]) (.pointer (some ⟨H3_.n, 0, none⟩)) (.tmp 6) H8_ (by kernel_rfl) (by kernel_rfl) (by kernel_rfl) (by kernel_rfl) (by kernel_rfl) (by kernel_rfl) ((by kernel_rfl : _ = aload T14 24 (.pointer (some ⟨H3_.n, 0, none⟩)) H8_).trans ((aload_at gH8_H3__n).trans (by kernel_rfl))) (by simp [veq, veqs, veq0]) (lowB_ptr (by omega)) ((by kernel_rfl : _ = val (aload T14 24 (.pointer (some ⟨H3_.n, 0, none⟩)) H8_) H8_).trans (val_to ((aload_at gH8_H3__n).trans (by kernel_rfl)) (by kernel_rfl))) ?_
  refine aopsU_go 2 (by kernel_rfl) ?_
  refine aopsU_see 51 (.bool true) (see_bool (by kernel_rfl) (text_eq hx hy ux uy)) ?_
  refine aopsU_go 2 (by kernel_rfl) ?_
  refine aopsU_ask 54 (.bool true) 10 #[] (by kernel_rfl) (by kernel_rfl) (by kernel_rfl) (by kernel_rfl) (by kernel_rfl) ?_
  refine aopsU_go 2 (by kernel_rfl) ?_
  refine aopsU_end (by kernel_rfl) (then_normal ?_)
  refine aw_ret (bodyQ_ret_to (.bool true) H8_ (by kernel_rfl) (by kernel_rfl) ?_)
  rfl
theorem texts_run {op rd ra rb im oq rd2 ra2 rb2 im2 : Int} {H : Heap} (h1 : insB op rd ra rb im = true) (h2 : insB oq rd2 ra2 rb2 im2 = true) : ACall Tryd.prog T14 5 #[.agg #[.int .i64 op, .int .i64 rd, .int .i64 ra, .int .i64 rb, .int .u32 im], .agg #[.int .i64 oq, .int .i64 rd2, .int .i64 ra2, .int .i64 rb2, .int .u32 im2]] H fun r H' => r = .bool true :=
  texts_at (orc6 op rd ra rb im h1) (orc6 oq rd2 ra2 rb2 im2 h2) (made_right ..) (made_right ..) (pick0_u32 _ (insB_of h1).2.2.2.2) (pick0_u32 _ (insB_of h2).2.2.2.2)
end Hc
end Go.Proofs.YtndjckfnggnddaaDoor
