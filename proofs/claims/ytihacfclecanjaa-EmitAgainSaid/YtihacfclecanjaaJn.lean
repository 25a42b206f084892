/- Chapter 22: rows of one number. -/
import Derived.Test.YtihacfclecanjaaJm
set_option linter.unusedVariables false
set_option linter.unusedSimpArgs false
namespace Go.Proofs.Ytihacfclecanjaa
open Go Go.Ev Go.RowKit
set_option maxRecDepth 100000
namespace Ls
section
variable {P : Program} {T : Tab} {X : Cx} {Q : Xt → St → Prop}
def cpOf (c : Cf) : Option (TypeId × Value × Value) := match (opC c).op with
 | .call cl => (match cl.callee, cl.argTypes.toList, aevals c.s.tm cl.args.toList with | .builtin .copy, [dt, _], some [d, x] => some (dt, d, x) | _, _, _ => none)
 | _ => none
theorem sd_cp {c : Cf} (t : Nat) (dt : TypeId) (d x v : Value) (h1 : Heap) (ho : okOp c t = true) (hs : strictC c = true) (hA : cpOf c = some (dt, d, x)) (ha : acopy T dt d x c.s.H = some (v, h1)) (hk : SD P T X Q (c.put t v h1)) : SD P T X Q c := by
 refine sd_val t v h1 ho hs ?_ hk;unfold cpOf at hA;unfold aop;split at hA
 ·rename_i cl hop;split at hA
  ·rename_i u1 u2 u3 e1 e2 e3;cases hA;simp only [hop, acall, e1, e2, e3, ha, val2]
  ·cases hA
 ·cases hA
end
def repL (m n : Nat) : List Int := List.replicate m (-1) ++ List.replicate (n - m) 0
theorem repL_len {m n : Nat} (h : m ≤ n) : (repL m n).length = n := by simp [repL]; omega
theorem repL_all (n : Nat) : repL n n = List.replicate n (-1) := by simp [repL]
theorem splice_at {l : List Value} {off : Nat} {cs : List Value} (h : off + cs.length ≤ l.length) : splice l off cs = l.take off ++ cs ++ l.drop (off + cs.length) := by
 unfold splice;split
 ·rename_i v;rw [List.set_eq_take_append_cons_drop, if_pos (by simp at h; omega)]; simp
 ·rfl
theorem aput_rep {b m k n : Nat} {H : Heap} (g : H.get b = some ⟨tab inC (repL m n), 3, false⟩) (hk : m + k ≤ n) : aput b m (tab inC (List.replicate k (-1))) H = some (H.put b ⟨tab inC (repL (m + k) n), 3, false⟩) := by
 unfold aput;rw [g];have hl : (tab inC (List.replicate k (-1))).length = k := by rw [tab_len inC_len]; simp
 have hL : (tab inC (repL m n)).length = n := by rw [tab_len inC_len, repL_len (by omega)]; simp
 have h1 : (tab inC (List.replicate k (-1))).all Ev.one = true := tab_ones inC_ones _;simp only [Bool.not_false, h1, hl, hL, Bool.true_and];rw [show (m + k).ble n = true from Nat.ble_eq_true_of_le hk];simp only [cond_true];rw [splice_at (by rw [hl, hL]; exact hk), hl]
 congr 3
 have e1 := tab_take inC_len (repL m n) m;have e2 := tab_drop inC_len (repL m n) (m + k);rw [Nat.mul_one] at e1 e2;rw [e1, e2, ← tab_app, ← tab_app]
 congr 1
 unfold repL;rw [List.take_append_of_le_length (by simp), List.take_of_length_le (by simp), List.drop_append, List.drop_of_length_le (by simp), List.nil_append, List.length_replicate, List.drop_replicate, List.replicate_append_replicate]
 congr 2
 try omega
theorem acopy_one {T : Tab} {dt : TypeId} {b sb n : Nat} {e0 : TypeId} {ro : Bool} {H : Heap} (hu : T.under dt = some (.slice 3)) (hs : T.size 3 = some 1) (g : H.get b = some ⟨tab inC (List.replicate n 0), 3, false⟩) (gs : H.get sb = some ⟨[.int .i64 (-1)], e0, ro⟩) (hn : 0 < n) :
    acopy T dt (.slice (some ⟨b, 0, none⟩) n n) (.slice (some ⟨sb, 0, none⟩) 1 1) H = some (.int .i64 1, H.put b ⟨tab inC (repL 1 n), 3, false⟩) := by
 have hm : Nat.min 1 n = 1 := Nat.min_eq_left hn;have e0 : repL 0 n = List.replicate n 0 := by simp [repL]
 rw [← e0] at g;have hp := aput_rep (k := 1) g (by omega);simp only [acopy, hu, hs, atrim, asrc, hm, gs];have : tab inC (List.replicate 1 (-1)) = [.int .i64 (-1)] := rfl;rw [this] at hp;simp [hp]
theorem acopy_dbl {T : Tab} {dt : TypeId} {b n m dc sc : Nat} {H : Heap} (hu : T.under dt = some (.slice 3)) (hs : T.size 3 = some 1) (g : H.get b = some ⟨tab inC (repL m n), 3, false⟩) (h0 : 0 < m) (hn : m < n) :
    acopy T dt (.slice (some ⟨b, 0 + m * 1, none⟩) (n - m) dc) (.slice (some ⟨b, 0, none⟩) m sc) H = some (.int .i64 ((min m (n - m) : Nat) : Int), H.put b ⟨tab inC (repL (m + min m (n - m)) n), 3, false⟩) := by
 have hk1 : 0 < min m (n - m) := by omega
 have hk2 : m + min m (n - m) ≤ n := by omega
 have hk3 : min m (n - m) ≤ m := by omega
 generalize hk : min m (n - m) = k at *;have hp := aput_rep g hk2;have e1 := tab_take inC_len (repL m n) k;rw [Nat.mul_one] at e1
 have e2 : (repL m n).take k = List.replicate k (-1) := by
  unfold repL;rw [List.take_append_of_le_length (by simpa using hk3), List.take_replicate, Nat.min_eq_left hk3]
 rw [e2] at e1;have hl : (tab inC (List.replicate k (-1))).length = k := by rw [tab_len inC_len]; simp
 have hm : Nat.min m (n - m) = k := hk;simp only [acopy, hu, hs, atrim, asrc, hm, g, List.drop_zero, Nat.zero_add, Nat.mul_one, e1, hl, beq_self_eq_true, cond_true];cases ht : tab inC (List.replicate k (-1)) with
 | nil => rw [ht] at hl; simp at hl; omega
 | cons a r => rw [ht] at hp; rw [show k.beq k = true from Nat.beq_refl k]; simp only [cond_true, hp]
theorem unk_big {n : Nat} (h : n < 1073741824) : unk.ble n = false := by
 cases e : unk.ble n with
 | false => rfl
 | true => have := Nat.le_of_ble_eq_true e; unfold unk at this; omega
theorem beq_no {n m : Nat} (h : n ≠ m) : n.beq m = false := by
 cases e : n.beq m with
 | false => rfl
 | true => exact absurd (Nat.eq_of_beq_eq_true e) h
theorem asl_lo {T : Tab} {t e : TypeId} {kk : IntKind} {b n m : Nat} (hT : T.under t = some (.slice e)) (hz : T.size e = some 1) (h00 : 0 < m) (h0 : m < n) (hn : n < 1073741824) : aslice T t (.slice (some ⟨b, 0, none⟩) n n) (some (.int kk (m : Int))) none none = some (.slice (some ⟨b, 0 + m * 1, none⟩) (n - m) (n - m)) := by
 have e1 : (m : Int) = Int.ofNat m := rfl;simp only [aslice, hT, hz, e1, unk_big hn, beq_no (show n ≠ m by omega), Nat.ble_eq_true_of_le (show m ≤ n by omega), Nat.ble_eq_true_of_le (Nat.le_refl n), cond_true, cond_false, Option.map_some, Addr.add, if_neg (show ¬ m * 1 = 0 by omega)]
theorem asl_hi {T : Tab} {t e : TypeId} {kk : IntKind} {b n m : Nat} (hT : T.under t = some (.slice e)) (hz : T.size e = some 1) (h0 : m ≤ n) (h1 : 0 < n) (hn : n < 1073741824) : aslice T t (.slice (some ⟨b, 0, none⟩) n n) none (some (.int kk (m : Int))) none = some (.slice (some ⟨b, 0, none⟩) m n) := by
 have e1 : (m : Int) = Int.ofNat m := rfl;simp only [aslice, hT, hz, e1, unk_big hn, beq_no (show n ≠ 0 by omega), Nat.ble_eq_true_of_le h0, Nat.ble_eq_true_of_le (Nat.zero_le m), cond_true, cond_false, Option.map_some, Nat.zero_mul, Nat.sub_zero];rfl
theorem and_low (n : Nat) (h : n < 4294967296) : IntKind.u64.wrap (((BitVec.ofInt 64 (n : Int) &&& BitVec.ofInt 64 4294967295).toNat : Nat) : Int) = (n : Int) := by
 have e : (BitVec.ofInt 64 (n : Int) &&& BitVec.ofInt 64 4294967295).toNat = n := by
  rw [BitVec.toNat_and, BitVec.toNat_ofInt, BitVec.toNat_ofInt]
  have e1 : ((n : Int) % ((2 ^ 64 : Nat) : Int)).toNat = n := by
   rw [Int.emod_eq_of_lt (by omega) (by omega)]; omega
  have e2 : ((4294967295 : Int) % ((2 ^ 64 : Nat) : Int)).toNat = 2 ^ 32 - 1 := by decide
  rw [e1, e2, Nat.and_two_pow_sub_one_eq_mod];omega
 rw [e];exact wu64 rfl (by omega) (by omega)
theorem shr_low (n : Nat) (h : n < 4294967296) : Int.fdiv (n : Int) 4294967296 = 0 := by
 rw [Int.fdiv_eq_ediv_of_nonneg _ (by decide)]; omega
noncomputable def f112b : Code := Try.f112.body.getD .skip
theorem mul64_s {n : Nat} (hn : n < 4294967296) : SCall Try.prog T15 112 #[.int .u64 1, .int .u64 (n : Int)] (hq []) fun v h => v = .tuple #[.int .u64 0, .int .u64 (n : Int)] ∧ h = hq [] := by
 refine zS Try.f112 f112b 51 0 fun X hX => ?_
 refine sd_run 24 (sd_see 19 (.int .u64 (n : Int)) (see_int (x := (IntKind.u64.wrap (((BitVec.ofInt 64 (n : Int) &&& BitVec.ofInt 64 4294967295).toNat : Nat) : Int))) kr (and_low n hn)) (sd_run 7 (sd_see 21 (.int .u64 0) (see_int (x := (Int.fdiv (n : Int) 4294967296)) kr (shr_low n hn)) (zI 8 24 .u64 (n : Int) (IntKind.u64.wrap (1 * (n : Int))) (zI 8 27 .u64 0 (IntKind.u64.wrap (0 * (n : Int))) ?_)))));refine sd_run 2 (sd_see 29 (.int .u64 0) (see_int (x := (Int.fdiv (n : Int) 4294967296)) kr (shr_low n hn)) (zI 46 50 .u64 (n : Int) (IntKind.u64.wrap (1 * (n : Int))) (sd_run 4 ?_)));refine zY (.tuple #[.int .u64 0, .int .u64 (n : Int)]) hX [] ⟨rfl, rfl⟩
noncomputable def f100b : Code := Try.f100.body.getD .skip
theorem mul_s {n : Nat} (hn : n < 4294967296) : SCall Try.prog T15 100 #[.int .u64 1, .int .u64 (n : Int)] (hq []) fun v h => v = .tuple #[.int .u64 0, .int .u64 (n : Int)] ∧ h = hq [] := by
 refine zS Try.f100 f100b 30 0 fun X hX => ?_
 refine sd_run 14 (zG 25 112 #[.int .u64 1, .int .u64 (n : Int)] (@mul64_s n hn) [] ?_);rintro v9 k9 ⟨rfl, rfl⟩;refine ⟨rfl, .tuple #[.int .u64 0, .int .u64 (n : Int)], kr, ?_⟩;refine sd_run 16 ?_;refine zY (.tuple #[.int .u64 0, .int .u64 (n : Int)]) hX [] ⟨rfl, rfl⟩
noncomputable def f72b : Code := Try.f72.body.getD .skip
theorem repeat1_s {n : Nat} (hn : n < 1073741824) (h0 : 0 < n) : SCall Try.prog T15 72 #[sK 0 1 1, jI (n : Int)] (hq [oB 3 [jI (-1)]]) fun v h => v = .slice (some ⟨1, 0, none⟩) n n ∧ h = hq [oB 3 [jI (-1)], (inF (List.replicate n (-1)))] := by
 refine zS Try.f72 f72b 48 1 fun X hX => ?_
 refine zF 10 10 ((n : Int) < 0) (zI 12 17 .u64 (n : Int) (IntKind.u64.wrap (n : Int)) (zG 18 100 #[.int .u64 1, .int .u64 (n : Int)] (@mul_s n zo) [] ?_));rintro v9 k9 ⟨rfl, rfl⟩;refine ⟨rfl, .tuple #[.int .u64 0, .int .u64 (n : Int)], kr, ?_⟩;refine zF 15 25 ((n : Int) > 9223372036854775807) (zI 10 29 .i64 (n : Int) (IntKind.i64.wrap (n : Int)) (sd_make 30 26 3 8 n 1 .i64 .i64 [jI 0] (tab inC (List.replicate n 0)) kr kr kr kr zo zo kr (tab_one (enc := inC) (a := 0) rfl _) (sd_run 7 (sd_cp 33 26 (sK 1 n n) (sK 0 1 1) (jI 1) _ kr kr kr (acopy_one (dt := 26) (e0 := 3) (ro := false) kr kr kr kr zo) (sd_run 5 ?_)))));refine sd_loop 48 (cl (cl (cl (cr (cr (cr (cr (cr (cr f72b))))))))) [.blk 0, .next (cr (cr (cr (cr (cr (cr (cr f72b)))))))] kr kr kr (fun m9 s9 => ∃ (m : Nat), m9 = n - m ∧ (0 < m) ∧ (m ≤ n) ∧ s9 = ⟨tmL [(7, sK 1 n n), (8, jI (m : Int))], hq [oB 3 [jI (-1)], (inF (repL m n))]⟩) (n - 1) _ e2_ hX ⟨1, rfl, zo, zo, rfl⟩ ⟨zs, zt⟩ kr ?_;rintro m9 s9 ⟨m, rfl, i1_0, i1_1, rfl⟩ R1_ hR1_
 by_cases hlt : m < n
 ·refine zT 7 37 ((m : Int) < (n : Int)) (sd_run 10 (sd_val 41 (.slice (some ⟨1, 0 + m * 1, none⟩) (n - m) (n - m)) _ kr kr (aop_slice (t := 26) (x := sK 1 n n) (l := some (jI (m : Int))) (h := none) kr (asl_lo (e := 3) kr kr zo zo zo)) (sd_run 2 (sd_val 44 (sK 1 m n) _ kr kr (aop_slice (t := 26) (x := sK 1 n n) (l := none) (h := some (jI (m : Int))) kr (asl_hi (e := 3) kr kr zo zo zo)) (sd_cp 45 26 (.slice (some ⟨1, 0 + m * 1, none⟩) (n - m) (n - m)) (sK 1 m n) (jI (((min m (n - m)) : Nat) : Int)) _ kr kr kr (acopy_dbl (dt := 26) kr kr kr zo zo) (sd_run 1 ?_))))));refine zI 0 46 .i64 ((m + (min m (n - m)) : Nat) : Int) (IntKind.i64.wrap ((m : Int) + (((min m (n - m)) : Nat) : Int))) (sd_run 3 ?_);refine sd_inv R1_ kr (hR1_ _ (n - (m + min m (n - m))) _ e2_ zo ⟨m + min m (n - m), rfl, zo, zo, rfl⟩ ⟨zs, zt⟩ kr)
 ·obtain rfl : n = m := by omega
  refine zF 7 37 ((n : Int) < (n : Int)) (sd_run 15 ?_);refine sdY (sK 1 n n) hX [oB 3 [jI (-1)], (inF (List.replicate n (-1)))] i2_ ⟨brn, bk_flat (tab inC (repL n n)) kr (tab_plain inC_pl _) (congrArg (tab inC) (repL_all n)), ⟨⟩⟩ ⟨rfl, rfl⟩
theorem repeat0_s   : SCall Try.prog T15 72 #[sK 0 1 1, jI 0] (hq [oB 3 [jI (-1)]]) fun v h => v = .slice (some ⟨1, 0, none⟩) 0 0 ∧ h = hq [oB 3 [jI (-1)], oB 3 []] := by
 refine zS Try.f72 f72b 48 1 fun X hX => ?_
 refine sd_run 22 (zG 18 100 #[.int .u64 1, .int .u64 ((0 : Nat) : Int)] (@mul_s 0 zo) [] ?_);rintro v9 k9 ⟨rfl, rfl⟩;refine ⟨rfl, .tuple #[.int .u64 0, .int .u64 ((0 : Nat) : Int)], kr, ?_⟩;refine sd_run 2 (sd_see 19 (.int .u64 0) (see_int (x := ((0 : Nat) : Int)) kr rfl) (sd_run 1 (sd_see 20 (.int .u64 0) (see_int (x := ((0 : Nat) : Int)) kr rfl) (sd_run 59 ?_))));refine zY (sK 1 0 0) hX i2_ ⟨rfl, rfl⟩
theorem repeat_s {n : Nat} (hn : n < 1073741824) : SCall Try.prog T15 72 #[sK 0 1 1, jI (n : Int)] (hq [oB 3 [jI (-1)]]) fun v h => v = .slice (some ⟨1, 0, none⟩) n n ∧ h = hq [oB 3 [jI (-1)], (inF (List.replicate n (-1)))] := by
 rcases Nat.eq_zero_or_pos n with rfl | h0
 ·exact repeat0_s
 ·exact repeat1_s hn h0
end Ls
end Go.Proofs.Ytihacfclecanjaa
