/- Chapter 22: what the code of a block does: the plain law. -/
import Derived.Test.YtihacfclecanjaaQb
import Derived.Test.YtihacfclecanjaaJj
import Derived.Test.YtihacfclecanjaaJo
set_option linter.unusedVariables false
set_option linter.unusedSimpArgs false
namespace Go.Proofs.Ytihacfclecanjaa
open Go Go.Ev Go.RowKit
set_option maxRecDepth 100000
namespace Ls
def bnOf (c : Cf) : Option (BinOp × TypeId × Value × Value) := match (opC c).op with
 | .binOp op t x y _ => (match aeval c.s.tm x, aeval c.s.tm y with | some u, some v => some (op, t, u, v) | _, _ => none)
 | _ => none
theorem sd_bin {P : Program} {T : Tab} {X : Cx} {Q : Xt → St → Prop} {c : Cf} (t : Nat) (v : Value) (op : BinOp) (ty : TypeId) (u w : Value) (ho : okOp c t = true) (hs : strictC c = true) (hA : bnOf c = some (op, ty, u, w)) (hb : abin T op ty u w = some v) (hk : SD P T X Q (c.put t v c.s.H)) : SD P T X Q c := by
 refine sd_val t v c.s.H ho hs ?_ hk;unfold bnOf at hA;split at hA
 ·rename_i op' ty' x y po hop;split at hA
  ·rename_i u' w' e1 e2;cases hA;unfold aop;simp only [hop, e1, e2, hb, orVal, val]
  ·cases hA
 ·cases hA
def mkAB (d r : List Int) (A B o im : Int) : Int := if o = 0 then im else if o = 1 then argD d im.toNat else if o = 2 then argD r im.toNat else if o = 3 then doR im A B else doF im A B
theorem mkV_AB (d r V : List Int) (x : II) : mkV d r V x = mkAB d r (V.getD x.2.2.1.toNat 0) (V.getD x.2.2.2.1.toNat 0) x.1 x.2.2.2.2 := rfl
structure GP (V rg sl : List Int) (mh mk : List (Int × Int)) (vm : Nat) : Prop where
 v : V = rdV rg sl mh mk
 m : vm = V.length
 lr : rg.length = vm
 ls : sl.length = vm
theorem GP.of {rg sl : List Int} {mh mk : List (Int × Int)} {vm : Nat} (h : rg.length = vm) (k : sl.length = vm) : GP (rdV rg sl mh mk) rg sl mh mk vm := ⟨rfl, by simp [h], h, k⟩
def evM (c : List II) (d r rg sl : List Int) : Nat → List (Int × Int) × List (Int × Int)
 | 0 => ([], [])
 | k + 1 => match c[k]? with
  | some x => (stepH rg sl k (mkV d r (rdV rg sl (evM c d r rg sl k).1 (evM c d r rg sl k).2) x) (evM c d r rg sl k).1, stepK rg sl k (mkV d r (rdV rg sl (evM c d r rg sl k).1 (evM c d r rg sl k).2) x) (evM c d r rg sl k).2)
  | none => evM c d r rg sl k
theorem evM_succ {c : List II} {d r rg sl : List Int} {k : Nat} {x : II} (h : c[k]? = some x) : evM c d r rg sl (k + 1) = (stepH rg sl k (mkV d r (rdV rg sl (evM c d r rg sl k).1 (evM c d r rg sl k).2) x) (evM c d r rg sl k).1, stepK rg sl k (mkV d r (rdV rg sl (evM c d r rg sl k).1 (evM c d r rg sl k).2) x) (evM c d r rg sl k).2) := by
 show (match c[k]? with | some x => _ | none => _) = _; rw [h]
def evW (c : List II) (d r rg sl : List Int) (k : Nat) : List Int := rdV rg sl (evM c d r rg sl k).1 (evM c d r rg sl k).2
theorem evM_32 {c : List II} {d r rg sl : List Int} (hd : V32 d) (hr : V32 r) (hi : ∀ x ∈ c, 0 ≤ x.2.2.2.2 ∧ x.2.2.2.2 < 4294967296) : ∀ k, M32 (evM c d r rg sl k).1 ∧ M32 (evM c d r rg sl k).2
 | 0 => ⟨M32.nil, M32.nil⟩
 | k + 1 => by
  obtain ⟨h1, h2⟩ := evM_32 (rg := rg) (sl := sl) hd hr hi k;unfold evM;split
  ·rename_i x hx;have hv := mkV_rng hd hr (rdV_32 (rg := rg) (sl := sl) h1 h2) (hi x (List.mem_of_getElem? hx));refine ⟨?_, ?_⟩
   ·dsimp only; unfold stepH; split
    ·exact h1
    ·exact h1.upd hv
   ·dsimp only; unfold stepK; split
    ·exact h2.upd hv
    ·exact h2
  ·exact ⟨h1, h2⟩
theorem evW_32 {c : List II} {d r rg sl : List Int} (hd : V32 d) (hr : V32 r) (hi : ∀ x ∈ c, 0 ≤ x.2.2.2.2 ∧ x.2.2.2.2 < 4294967296) (k : Nat) : V32 (evW c d r rg sl k) := rdV_32 (evM_32 hd hr hi k).1 (evM_32 hd hr hi k).2
@[simp] theorem evW_len (c : List II) (d r rg sl : List Int) (k : Nat) : (evW c d r rg sl k).length = rg.length := by simp [evW]
structure FF (s s' : MS) (r9 r10 r11 r12 : Int) : Prop where
 R : ∀ i, s'.R i = if i = 9 then r9 else if i = 10 then r10 else if i = 11 then r11 else if i = 12 then r12 else s.R i
 M : s'.M = s.M
theorem FF.start (s : MS) : FF s s (s.R 9) (s.R 10) (s.R 11) (s.R 12) := ⟨fun i => by
 split
 ·rename_i h; rw [h]
 ·split
  ·rename_i h; rw [h]
  ·split
   ·rename_i h; rw [h]
   ·split
    ·rename_i h; rw [h]
    ·rfl, rfl⟩
section
variable {s s' : MS} {r9 r10 r11 r12 : Int}
theorem FF.at9 (h : FF s s' r9 r10 r11 r12) : s'.R 9 = r9 := by rw [h.R]; rfl
theorem FF.at10 (h : FF s s' r9 r10 r11 r12) : s'.R 10 = r10 := by rw [h.R]; rfl
theorem FF.at11 (h : FF s s' r9 r10 r11 r12) : s'.R 11 = r11 := by rw [h.R]; rfl
theorem FF.at12 (h : FF s s' r9 r10 r11 r12) : s'.R 12 = r12 := by rw [h.R]; rfl
theorem FF.at_ (h : FF s s' r9 r10 r11 r12) {i : Int} (hi : i < 9 ∨ 12 < i) : s'.R i = s.R i := by rw [h.R, if_neg (by omega), if_neg (by omega), if_neg (by omega), if_neg (by omega)]
theorem FF.op10 (h : FF s s' r9 r10 r11 r12) {op : Int} (ra rb : Int) (ho : 2 ≤ op ∧ op ≤ 13) {v : Int} (hv : hI op (s'.R ra) (s'.R rb) = v) : FF s (ex1 (opI op 10 ra rb) s') r9 v r11 r12 := by
 rw [ex_op _ _ _ _ ho, hv];refine ⟨fun i => ?_, h.M⟩;show up s'.R 10 v i = _;unfold up
 by_cases q : i = 10
 ·rw [if_pos q, if_neg (by omega), if_pos q]
 ·rw [if_neg q, h.R, if_neg q, if_neg q]
theorem FF.op11 (h : FF s s' r9 r10 r11 r12) {op : Int} (ra rb : Int) (ho : 2 ≤ op ∧ op ≤ 13) {v : Int} (hv : hI op (s'.R ra) (s'.R rb) = v) : FF s (ex1 (opI op 11 ra rb) s') r9 r10 v r12 := by
 rw [ex_op _ _ _ _ ho, hv];refine ⟨fun i => ?_, h.M⟩;show up s'.R 11 v i = _;unfold up
 by_cases q : i = 11
 ·rw [if_pos q, if_neg (by omega), if_neg (by omega), if_pos q]
 ·rw [if_neg q, h.R, if_neg q, if_neg q]
theorem FF.op12 (h : FF s s' r9 r10 r11 r12) {op : Int} (ra rb : Int) (ho : 2 ≤ op ∧ op ≤ 13) {v : Int} (hv : hI op (s'.R ra) (s'.R rb) = v) : FF s (ex1 (opI op 12 ra rb) s') r9 r10 r11 v := by
 rw [ex_op _ _ _ _ ho, hv];refine ⟨fun i => ?_, h.M⟩;show up s'.R 12 v i = _;unfold up
 by_cases q : i = 12
 ·rw [if_pos q, if_neg (by omega), if_neg (by omega), if_neg (by omega), if_pos q]
 ·rw [if_neg q, h.R, if_neg q, if_neg q]
theorem FF.li12 (h : FF s s' r9 r10 r11 r12) (v : Int) : FF s (ex1 (liI 12 v) s') r9 r10 r11 v := by
 rw [ex_li];refine ⟨fun i => ?_, h.M⟩;show up s'.R 12 v i = _;unfold up
 by_cases q : i = 12
 ·rw [if_pos q, if_neg (by omega), if_neg (by omega), if_neg (by omega), if_pos q]
 ·rw [if_neg q, h.R, if_neg q, if_neg q]
theorem FF.sign9 (h : FF s s' r9 r10 r11 r12) : okL (signC 11 9) s' ∧ FF s (exL (signC 11 9) s') r9 r10 (hI 9 r9 31) 31 := by
 have h1 := h.li12 31;exact ⟨⟨ok_li _ _ _, ok_op _ _ _ _ (by decide), trivial⟩, h1.op11 (op := 9) 9 12 (by decide) (by rw [h1.at9, h1.at12])⟩
theorem FF.sign11 (h : FF s s' r9 r10 r11 r12) : okL (signC 11 11) s' ∧ FF s (exL (signC 11 11) s') r9 r10 (hI 9 r11 31) 31 := by
 have h1 := h.li12 31;exact ⟨⟨ok_li _ _ _, ok_op _ _ _ _ (by decide), trivial⟩, h1.op11 (op := 9) 11 12 (by decide) (by rw [h1.at11, h1.at12])⟩
theorem FF.bit (h : FF s s' r9 r10 r11 r12) (u : Int) : okL (bitC 11 u) s' ∧ FF s (exL (bitC 11 u) s') r9 (bitI r10 r11 u) (hI 8 r11 u) u := by
 have h1 := h.li12 u;have h2 := h1.op11 11 12 (by decide : (2 : Int) ≤ 8 ∧ (8 : Int) ≤ 13) (v := hI 8 r11 u) (by rw [h1.at11, h1.at12]);exact ⟨⟨ok_li _ _ _, ok_op _ _ _ _ (by decide), ok_op _ _ _ _ (by decide), trivial⟩, h2.op10 (op := 6) 10 11 (by decide) (v := bitI r10 r11 u) (by rw [h2.at10, h2.at11]; rfl)⟩
theorem FF.ov (h : FF s s' r9 r10 r11 r12) : okL ovC s' ∧ ∃ a b, FF s (exL ovC s') r9 (bitI r10 (hI 9 (hI 5 r11 r12) 31) 3) a b := by
 have h1 := h.op11 11 12 (by decide : (2 : Int) ≤ 5 ∧ (5 : Int) ≤ 13) (v := hI 5 r11 r12) (by rw [h.at11, h.at12]);obtain ⟨o2, h2⟩ := h1.sign11;obtain ⟨o3, h3⟩ := h2.bit 3;refine ⟨⟨ok_op _ _ _ _ (by decide), okL_app _ _ _ o2 o3⟩, hI 8 (hI 9 (hI 5 r11 r12) 31) 3, 3, ?_⟩;show FF s (exL (signC 11 11 ++ bitC 11 3) (ex1 (opI 5 11 11 12) s')) _ _ _ _;rw [exL_app];exact h3
end
theorem hostO_in (op : Int) : 2 ≤ hostO op ∧ hostO op ≤ 13 := by unfold hostO; (repeat' split) <;> omega
theorem alu_ex {op rd a b : Int} (s : MS) (h : rd ≠ 12) : okL (aluC op rd a b) s ∧ (exL (aluC op rd a b) s).R rd = aluI op (s.R a) (s.R b) ∧ (∀ i, i ≠ rd → i ≠ 12 → (exL (aluC op rd a b) s).R i = s.R i) ∧ (exL (aluC op rd a b) s).M = s.M := by
 unfold aluC aluI;cases lowO op
 ·simp only [Bool.false_eq_true, if_false];refine ⟨⟨ok_op _ _ _ _ (hostO_in op), ok_li _ _ _, ok_op _ _ _ _ (by decide), trivial⟩, ?_, ?_, ?_⟩
  ·show (ex1 (opI 5 rd rd 12) (ex1 (liI 12 4294967295) (ex1 (opI (hostO op) rd a b) s))).R rd = _;rw [ex_op _ _ _ _ (by decide), ex_li, ex_op _ _ _ _ (hostO_in op)];simp [up, h]
  ·intro i h1 h2;show (ex1 (opI 5 rd rd 12) (ex1 (liI 12 4294967295) (ex1 (opI (hostO op) rd a b) s))).R i = _;rw [ex_op _ _ _ _ (by decide), ex_li, ex_op _ _ _ _ (hostO_in op)];simp [up, h1, h2]
  ·show (ex1 (opI 5 rd rd 12) (ex1 (liI 12 4294967295) (ex1 (opI (hostO op) rd a b) s))).M = _;rw [ex_op _ _ _ _ (by decide), ex_li, ex_op _ _ _ _ (hostO_in op)]
 ·simp only [if_true];refine ⟨⟨ok_op _ _ _ _ (hostO_in op), trivial⟩, ?_, ?_, ?_⟩
  ·show (ex1 (opI (hostO op) rd a b) s).R rd = _;rw [ex_op _ _ _ _ (hostO_in op)]; exact up_at _ _ _
  ·intro i h1 _;show (ex1 (opI (hostO op) rd a b) s).R i = _;rw [ex_op _ _ _ _ (hostO_in op)]; exact up_ne _ _ h1
  ·show (ex1 (opI (hostO op) rd a b) s).M = _;rw [ex_op _ _ _ _ (hostO_in op)]
theorem flag_ex {op a b : Int} (s : MS) (h0 : s.R 15 = 0) (ha : a < 9) (hb : b < 9) : okL (flagC op a b) s ∧ (exL (flagC op a b) s).R 10 = flagI op (s.R a) (s.R b) ∧ (∀ i, i < 9 ∨ 12 < i → (exL (flagC op a b) s).R i = s.R i) ∧ (exL (flagC op a b) s).M = s.M := by
 obtain ⟨o1, v1, k1, m1⟩ := alu_ex (op := op) (rd := 9) (a := a) (b := b) s (by decide)
 have f1 : FF s (exL (aluC op 9 a b) s) (aluI op (s.R a) (s.R b)) (s.R 10) (s.R 11) ((exL (aluC op 9 a b) s).R 12) := ⟨fun i => by
  by_cases q : i = 9
  ·rw [if_pos q, q, v1]
  ·rw [if_neg q]
   by_cases q2 : i = 12
   ·rw [if_neg (by omega), if_neg (by omega), if_pos q2, q2]
   ·rw [k1 i q q2];split
    ·rename_i q3; rw [q3]
    ·split
     ·rename_i q3; rw [q3]
     ·rfl, m1⟩
 obtain ⟨r, hr⟩ : ∃ r, r = aluI op (s.R a) (s.R b) := ⟨_, rfl⟩;rw [← hr] at f1;have f2 := f1.op10 9 15 (by decide : (2 : Int) ≤ 13 ∧ (13 : Int) ≤ 13) (v := hI 13 r 0) (by rw [f1.at9, f1.at_ (by omega), h0]);obtain ⟨o3, f3⟩ := f2.sign9;obtain ⟨o4, f4⟩ := f3.bit 1
 have key : ∀ (t : List II) (v : Int), okL t (exL (bitC 11 1) (exL (signC 11 9) (ex1 (opI 13 10 9 15) (exL (aluC op 9 a b) s)))) → (∃ x y, FF s (exL t (exL (bitC 11 1) (exL (signC 11 9) (ex1 (opI 13 10 9 15) (exL (aluC op 9 a b) s))))) r v x y) →
     okL (aluC op 9 a b ++ (opI 13 10 9 15 :: (signC 11 9 ++ (bitC 11 1 ++ t)))) s ∧ (exL (aluC op 9 a b ++ (opI 13 10 9 15 :: (signC 11 9 ++ (bitC 11 1 ++ t)))) s).R 10 = v ∧ (∀ i, i < 9 ∨ 12 < i → (exL (aluC op 9 a b ++ (opI 13 10 9 15 :: (signC 11 9 ++ (bitC 11 1 ++ t)))) s).R i = s.R i) ∧ (exL (aluC op 9 a b ++ (opI 13 10 9 15 :: (signC 11 9 ++ (bitC 11 1 ++ t)))) s).M = s.M := by
  intro t v ot ⟨x, y, ft⟩
  have e : exL (aluC op 9 a b ++ (opI 13 10 9 15 :: (signC 11 9 ++ (bitC 11 1 ++ t)))) s = exL t (exL (bitC 11 1) (exL (signC 11 9) (ex1 (opI 13 10 9 15) (exL (aluC op 9 a b) s)))) := by
   rw [exL_app];show exL (signC 11 9 ++ (bitC 11 1 ++ t)) (ex1 (opI 13 10 9 15) (exL (aluC op 9 a b) s)) = _;rw [exL_app, exL_app]
  rw [e];exact ⟨okL_app _ _ _ o1 ⟨ok_op _ _ _ _ (by decide), okL_app _ _ _ o3 (okL_app _ _ _ o4 ot)⟩, ft.at10, fun i hi => ft.at_ hi, ft.M⟩
 unfold flagC flagI;simp only [← hr]
 by_cases q : op = 16
 ·rw [if_pos q, if_pos q];have f5 := f4.op11 9 a (by decide : (2 : Int) ≤ 12 ∧ (12 : Int) ≤ 13) (v := hI 12 r (s.R a)) (by rw [f4.at9, f4.at_ (by omega)]);obtain ⟨o6, f6⟩ := f5.bit 2;have f7 := f6.op11 a 9 (by decide : (2 : Int) ≤ 7 ∧ (7 : Int) ≤ 13) (v := hI 7 (s.R a) r) (by rw [f6.at9, f6.at_ (by omega)]);have f8 := f7.op12 b 9 (by decide : (2 : Int) ≤ 7 ∧ (7 : Int) ≤ 13) (v := hI 7 (s.R b) r) (by rw [f7.at9, f7.at_ (by omega)]);obtain ⟨o9, x, y, f9⟩ := f8.ov;refine key _ _ ⟨ok_op _ _ _ _ (by decide), okL_app _ _ _ o6 ⟨ok_op _ _ _ _ (by decide), ok_op _ _ _ _ (by decide), o9⟩⟩ ⟨x, y, ?_⟩;show FF s (exL (bitC 11 2 ++ (opI 7 11 a 9 :: opI 7 12 b 9 :: ovC)) (ex1 (opI 12 11 9 a) _)) _ _ _ _;rw [exL_app];exact f9
 ·rw [if_neg q, if_neg q]
  by_cases q2 : op = 17 ∨ op = 25
  ·rw [if_pos q2, if_pos q2];have f5 := f4.op11 a b (by decide : (2 : Int) ≤ 12 ∧ (12 : Int) ≤ 13) (v := hI 12 (s.R a) (s.R b)) (by rw [f4.at_ (by omega), f4.at_ (by omega)]);obtain ⟨o6, f6⟩ := f5.bit 2;have f7 := f6.op11 a b (by decide : (2 : Int) ≤ 7 ∧ (7 : Int) ≤ 13) (v := hI 7 (s.R a) (s.R b)) (by rw [f6.at_ (by omega), f6.at_ (by omega)]);have f8 := f7.op12 a 9 (by decide : (2 : Int) ≤ 7 ∧ (7 : Int) ≤ 13) (v := hI 7 (s.R a) r) (by rw [f7.at9, f7.at_ (by omega)]);obtain ⟨o9, x, y, f9⟩ := f8.ov;refine key _ _ ⟨ok_op _ _ _ _ (by decide), okL_app _ _ _ o6 ⟨ok_op _ _ _ _ (by decide), ok_op _ _ _ _ (by decide), o9⟩⟩ ⟨x, y, ?_⟩;show FF s (exL (bitC 11 2 ++ (opI 7 11 a b :: opI 7 12 a 9 :: ovC)) (ex1 (opI 12 11 a b) _)) _ _ _ _;rw [exL_app];exact f9
  ·rw [if_neg q2, if_neg q2];exact key [] _ trivial ⟨_, _, f4⟩
def PlB (rg sl : List Int) (n : Nat) : Prop := ∀ i, i < n → (0 ≤ rg.getD i 0 ∧ rg.getD i 0 < 7) ∨ (rg.getD i 0 = -1 ∧ 0 ≤ sl.getD i 0 ∧ sl.getD i 0 < 64)
def plV (rg sl : List Int) (s : MS) (n : Int) : Int := if 0 ≤ rg.getD n.toNat 0 then s.R (rg.getD n.toNat 0) else s.M (64 + sl.getD n.toNat 0)
theorem gR_lt {rg sl : List Int} {n : Nat} {x : Int} {into : Int} (hp : PlB rg sl n) (h0 : 0 ≤ x) (h1 : x < (n : Int)) : (gR rg x into < 7 ∧ 0 ≤ gR rg x into ∧ gR rg x into = rg.getD x.toNat 0) ∨ (gR rg x into = into ∧ rg.getD x.toNat 0 = -1) := by
 unfold gR;rcases hp x.toNat (by omega) with ⟨a, b⟩ | ⟨a, b, c⟩
 ·rw [if_pos a]; exact .inl ⟨b, a, rfl⟩
 ·rw [if_neg (by omega)]; exact .inr ⟨rfl, a⟩
theorem get_ex {rg sl : List Int} {n : Nat} {x into : Int} (s : MS) (hp : PlB rg sl n) (h0 : 0 ≤ x) (h1 : x < (n : Int)) (hz : s.R 15 = 0) : okL (gC rg sl x into) s ∧ (exL (gC rg sl x into) s).R (gR rg x into) = plV rg sl s x ∧ (∀ i, i ≠ into → (exL (gC rg sl x into) s).R i = s.R i) ∧ (exL (gC rg sl x into) s).M = s.M := by
 unfold gC gR plV;rcases hp x.toNat (by omega) with ⟨a, b⟩ | ⟨a, b, c⟩
 ·simp only [if_pos a];exact ⟨trivial, rfl, fun _ _ => rfl, rfl⟩
 ·have hn : ¬ 0 ≤ rg.getD x.toNat 0 := by omega
  simp only [if_neg hn];refine ⟨⟨ok_ld _ _ _ _ (by rw [hz]; omega), trivial⟩, ?_, fun i hi => ?_, rfl⟩
  ·show up s.R into (s.M (s.R 15 + (64 + sl.getD x.toNat 0))) into = _;rw [up_at, hz, Int.zero_add]
  ·exact up_ne _ _ hi
theorem get2_ex {rg sl : List Int} {n : Nat} {x y : Int} (s : MS) (hp : PlB rg sl n) (hx : 0 ≤ x ∧ x < (n : Int)) (hy : 0 ≤ y ∧ y < (n : Int)) (hz : s.R 15 = 0) :
    let t := exL (gC rg sl y 8) (exL (gC rg sl x 7) s)
    okL (gC rg sl x 7) s ∧ okL (gC rg sl y 8) (exL (gC rg sl x 7) s) ∧ t.R (gR rg x 7) = plV rg sl s x ∧ t.R (gR rg y 8) = plV rg sl s y ∧ (∀ i, i ≠ 7 → i ≠ 8 → t.R i = s.R i) ∧ t.M = s.M := by
 intro t;obtain ⟨a1, a2, a3, a4⟩ := get_ex (into := 7) s hp hx.1 hx.2 hz;obtain ⟨b1, b2, b3, b4⟩ := get_ex (into := 8) (exL (gC rg sl x 7) s) hp hy.1 hy.2 (by rw [a3 15 (by decide)]; exact hz)
 have e : plV rg sl (exL (gC rg sl x 7) s) y = plV rg sl s y := by
  unfold plV;rcases hp y.toNat (by omega) with ⟨a, b⟩ | ⟨a, b, c⟩
  ·rw [if_pos a, if_pos a, a3 _ (by omega)]
  ·rw [if_neg (by omega), if_neg (by omega), a4]
 refine ⟨a1, b1, ?_, b2.trans e, fun i h7 h8 => (b3 i h8).trans (a3 i h7), b4.trans a4⟩;rw [← a2];rcases gR_lt (into := 7) hp hx.1 hx.2 with ⟨q, _, _⟩ | ⟨q, _⟩ <;> exact b3 _ (by omega)
structure Hld (M0 : Int → Int) (nd nr : Int) (d r : List Int) (s : MS) : Prop where
 z : s.R 15 = 0
 bd : s.R 14 = (d.length : Int) - nd
 br : s.R 13 = (r.length : Int) - nr
 m : ∀ i, i < 64 → s.M i = M0 i
structure Lay (M0 : Int → Int) (d r : List Int) : Prop where
 ld : ∀ i : Nat, i < d.length → M0 (4 + (i : Int)) = d.getD i 0
 lr : ∀ i : Nat, i < r.length → M0 (20 + (i : Int)) = r.getD i 0
 dl : d.length ≤ 16
 rl : r.length ≤ 16
theorem val_ex {rg sl : List Int} {n : Nat} {M0 : Int → Int} {d r : List Int} {nd nr k rd : Int} {x : II} (s : MS) (hp : PlB rg sl n) (hk : k ≤ (n : Int)) (hm : madeB nd nr x k = true) (hi : 0 ≤ x.2.2.2.2 ∧ x.2.2.2.2 < 4294967296) (hl : Lay M0 d r) (hh : Hld M0 nd nr d r s) (hnd : 0 ≤ nd ∧ nd ≤ (d.length : Int)) (hnr : 0 ≤ nr ∧ nr ≤ (r.length : Int)) (hrd : rd ≠ 12)
    (hAB : x.1 = 3 ∨ x.1 = 4 → u32P (plV rg sl s x.2.2.1) ∧ u32P (plV rg sl s x.2.2.2.1)) :
    okL (valC rg sl nd nr rd x) s ∧ (exL (valC rg sl nd nr rd x) s).R rd = mkAB d r (plV rg sl s x.2.2.1) (plV rg sl s x.2.2.2.1) x.1 x.2.2.2.2 ∧ (∀ i, i ≠ rd → (i < 7 ∨ 12 < i) → (exL (valC rg sl nd nr rd x) s).R i = s.R i) ∧ (exL (valC rg sl nd nr rd x) s).M = s.M := by
 obtain ⟨o, dd, a, b, im⟩ := x;obtain ⟨_, hc⟩ := made_cases hm;simp only at hi hAB ⊢;unfold valC mkAB;simp only
 have hargD : ∀ (l : List Int) (nn : Int) (base w : Int), 0 ≤ im → im < nn → nn ≤ (l.length : Int) → l.length ≤ 16 → (∀ i : Nat, i < l.length → M0 (w + (i : Int)) = l.getD i 0) → 4 ≤ w → w ≤ 20 → base = (l.length : Int) - nn → s.M (base + (w + nn - 1 - im)) = argD l im.toNat ∧ (0 ≤ base + (w + nn - 1 - im) ∧ base + (w + nn - 1 - im) < 256) := by
  intro l nn base w h1 h2 h3 h4 h5 h6 h7 h8;subst h8;have e : (l.length : Int) - nn + (w + nn - 1 - im) = w + ((l.length - 1 - im.toNat : Nat) : Int) := by omega
  rw [e, hh.m _ (by omega), h5 _ (by omega)];exact ⟨rfl, by omega⟩
 rcases hc with ⟨rfl, ha, hb⟩ | ⟨rfl, ha, hb, hn⟩ | ⟨rfl, ha, hb, hn⟩ | ⟨rfl, ha, hb, h1, h2⟩ | ⟨rfl, ha, hb, h1, h2⟩ | ⟨rfl, ha, hb, h1⟩
 ·exact ⟨⟨ok_li _ _ _, trivial⟩, up_at _ _ _, fun i h _ => up_ne _ _ h, rfl⟩
 ·obtain ⟨e1, e2⟩ := hargD d nd (s.R 14) 4 hi.1 hn hnd.2 hl.dl hl.ld (by decide) (by decide) hh.bd;refine ⟨⟨ok_ld _ _ _ _ e2, trivial⟩, ?_, fun i h _ => up_ne _ _ h, rfl⟩;show up s.R rd (s.M (s.R 14 + (4 + nd - 1 - im))) rd = argD d im.toNat
  rw [up_at, e1]
 ·obtain ⟨e1, e2⟩ := hargD r nr (s.R 13) 20 hi.1 hn hnr.2 hl.rl hl.lr (by decide) (by decide) hh.br;refine ⟨⟨ok_ld _ _ _ _ e2, trivial⟩, ?_, fun i h _ => up_ne _ _ h, rfl⟩;show up s.R rd (s.M (s.R 13 + (20 + nr - 1 - im))) rd = argD r im.toNat
  rw [up_at, e1]
 ·obtain ⟨hA, hB⟩ := hAB (by simp);obtain ⟨o1, o2, v1, v2, k1, m1⟩ := get2_ex (x := a) (y := b) s hp ⟨ha.1, by omega⟩ ⟨hb.1, by omega⟩ hh.z;obtain ⟨o3, v3, k3, m3⟩ := alu_ex (op := im) (rd := rd) (a := gR rg a 7) (b := gR rg b 8) (exL (gC rg sl b 8) (exL (gC rg sl a 7) s)) hrd;simp only [show ((3 : Int) = 0) = False by simp, show ((3 : Int) = 1) = False by simp, show ((3 : Int) = 2) = False by simp, if_false, if_true];rw [exL_app, exL_app];refine ⟨okL_app _ _ _ o1 (okL_app _ _ _ o2 o3), ?_, fun i h h' => (k3 i h zo).trans (k1 i zo zo), m3.trans m1⟩;rw [v3, v1, v2, alu_do hA hB (.inl ⟨h1, h2⟩), if_neg (by omega)]
 all_goals
  obtain ⟨hA, hB⟩ := hAB (by simp);obtain ⟨o1, o2, v1, v2, k1, m1⟩ := get2_ex (x := a) (y := b) s hp ⟨ha.1, by omega⟩ ⟨hb.1, by omega⟩ hh.z;have g1 : gR rg a 7 < 9 := by rcases gR_lt (into := 7) hp ha.1 (by omega : a < (n : Int)) with ⟨q, _⟩ | ⟨q, _⟩ <;> omega
  have g2 : gR rg b 8 < 9 := by rcases gR_lt (into := 8) hp hb.1 (by omega : b < (n : Int)) with ⟨q, _⟩ | ⟨q, _⟩ <;> omega
  obtain ⟨o3, v3, k3, m3⟩ := flag_ex (op := im) (a := gR rg a 7) (b := gR rg b 8) (exL (gC rg sl b 8) (exL (gC rg sl a 7) s)) (by rw [k1 15 (by decide) (by decide)]; exact hh.z) g1 g2;simp only [show ((4 : Int) = 0) = False by simp, show ((4 : Int) = 1) = False by simp, show ((4 : Int) = 2) = False by simp, show ((4 : Int) = 3) = False by simp, if_false];rw [exL_app, exL_app, exL_app];refine ⟨okL_app _ _ _ o1 (okL_app _ _ _ o2 (okL_app _ _ _ o3 ⟨ok_op (op := 2) rd 10 0 _ (by decide), trivial⟩)), ?_, fun i h h' => ?_, ?_⟩
  ·show (ex1 (opI 2 rd 10 0) _).R rd = _;rw [ex_op _ _ _ _ (by decide)];show up _ rd _ rd = _;rw [up_at];show (exL (flagC im _ _) _).R 10 = _;rw [v3, v1, v2];exact flag_do hA hB (by omega)
  ·show (ex1 (opI 2 rd 10 0) _).R i = _;rw [ex_op _ _ _ _ (by decide)];show up _ rd _ i = _;rw [up_ne _ _ h, k3 i (by omega), k1 i (by omega) (by omega)]
  ·show (ex1 (opI 2 rd 10 0) _).M = _;rw [ex_op _ _ _ _ (by decide)];exact m3.trans m1
theorem mkAB_low (d r : List Int) {A B A' B' o im : Int} (h : o = 0 ∨ o = 1 ∨ o = 2) : mkAB d r A B o im = mkAB d r A' B' o im := by
 unfold mkAB;rcases h with rfl | rfl | rfl <;> rfl
structure BInv (c : List II) (d r rg sl : List Int) (M0 : Int → Int) (nd nr : Int) (k : Nat) (s : MS) : Prop where
 h : Hld M0 nd nr d r s
 v : ∀ j : Nat, j < k → plV rg sl s (j : Int) = rdP rg sl (evM c d r rg sl k).1 (evM c d r rg sl k).2 j
theorem one_ex {c : List II} {d r rg sl : List Int} {M0 : Int → Int} {nd nr : Int} {k : Nat} {x : II} {s : MS} (hb : BInv c d r rg sl M0 nd nr k s) (hx : c[k]? = some x) (hp : PlB rg sl c.length) (hlr : rg.length = c.length) (hm : madeB nd nr x (k : Int) = true) (hi : ∀ x ∈ c, 0 ≤ x.2.2.2.2 ∧ x.2.2.2.2 < 4294967296) (hl : Lay M0 d r) (hd32 : V32 d) (hr32 : V32 r) (hnd : 0 ≤ nd ∧ nd ≤ (d.length : Int)) (hnr : 0 ≤ nr ∧ nr ≤ (r.length : Int)) :
    okL (oneC rg sl nd nr k x) s ∧ BInv c d r rg sl M0 nd nr (k + 1) (exL (oneC rg sl nd nr k x) s) := by
 have hkc : k < c.length := (List.getElem?_eq_some_iff.1 hx).1;obtain ⟨hM1, hM2⟩ := evM_32 (rg := rg) (sl := sl) hd32 hr32 hi k;have h32 : V32 (evW c d r rg sl k) := evW_32 hd32 hr32 hi k
 have hread : ∀ a : Int, 0 ≤ a → a < (k : Int) → plV rg sl s a = (evW c d r rg sl k).getD a.toNat 0 := fun a h0 h1 => by
  have := hb.v a.toNat (by omega);rw [show (a.toNat : Int) = a by omega] at this;rw [this];exact (rdV_at (by omega)).symm
 have hops : x.1 = 3 ∨ x.1 = 4 → (0 ≤ x.2.2.1 ∧ x.2.2.1 < (k : Int)) ∧ (0 ≤ x.2.2.2.1 ∧ x.2.2.2.1 < (k : Int)) := fun h => by
  obtain ⟨o, dd, a, b, im⟩ := x;have := (made_cases hm).2;simp only at h ⊢;omega
 have hlow : ¬ (x.1 = 3 ∨ x.1 = 4) → x.1 = 0 ∨ x.1 = 1 ∨ x.1 = 2 := fun h => by
  obtain ⟨o, dd, a, b, im⟩ := x;have := (made_cases hm).2;simp only at h ⊢;omega
 have hval : mkAB d r (plV rg sl s x.2.2.1) (plV rg sl s x.2.2.2.1) x.1 x.2.2.2.2 = mkV d r (evW c d r rg sl k) x := by
  rw [mkV_AB]
  by_cases q : x.1 = 3 ∨ x.1 = 4
  ·obtain ⟨⟨a1, a2⟩, b1, b2⟩ := hops q;rw [hread _ a1 a2, hread _ b1 b2]
  ·exact mkAB_low d r (hlow q)
 have hv32 := mkV_rng hd32 hr32 h32 (hi x (List.mem_of_getElem? hx));obtain ⟨v, hv⟩ : ∃ v, v = mkV d r (evW c d r rg sl k) x := ⟨_, rfl⟩;rw [← hv] at hval hv32;have hstep := evM_succ (d := d) (r := r) (rg := rg) (sl := sl) hx;have hv2 : mkV d r (rdV rg sl (evM c d r rg sl k).1 (evM c d r rg sl k).2) x = v := hv.symm;rw [hv2] at hstep
 have vex := fun (rd : Int) (h : rd ≠ 12) => val_ex (rd := rd) s hp (show (k : Int) ≤ (c.length : Int) by omega) hm (hi x (List.mem_of_getElem? hx)) hl hb.h hnd hnr h (fun q => by
  obtain ⟨⟨a1, a2⟩, b1, b2⟩ := hops q;rw [hread _ a1 a2, hread _ b1 b2]
  exact ⟨h32.getD _, h32.getD _⟩)
 unfold oneC;rcases hp k hkc with ⟨a, b⟩ | ⟨a, b, b2⟩
 ·have e1 : gR rg (k : Int) 9 = rg.getD k 0 := by unfold gR; rw [Int.toNat_natCast, if_pos a]
  have e2 : kC rg sl (k : Int) (gR rg (k : Int) 9) = [] := by unfold kC; rw [Int.toNat_natCast, if_neg (by omega)]
  rw [e2, List.append_nil, e1];obtain ⟨o1, v1, k1, m1⟩ := vex (rg.getD k 0) (by omega);rw [hval] at v1;refine ⟨o1, ⟨(k1 15 zo zo).trans hb.h.z, (k1 14 zo zo).trans hb.h.bd, (k1 13 zo zo).trans hb.h.br, fun i hi => by rw [m1]; exact hb.h.m i hi⟩, fun j hj => ?_⟩;rw [hstep];unfold plV rdP stepH stepK;simp only [Int.toNat_natCast];rw [if_neg (show ¬ rg.getD k 0 = -1 by omega), if_neg (show ¬ rg.getD k 0 = -1 by omega)]
  by_cases hjk : j = k
  ·subst hjk;rw [if_pos a, if_neg (by omega), v1, look_same]
  ·have hold := hb.v j (by omega);unfold plV rdP at hold;simp only [Int.toNat_natCast] at hold;rcases hp j (by omega) with ⟨c1, c2⟩ | ⟨c1, c2, c3⟩
   ·rw [if_pos c1, if_neg (by omega)] at hold;rw [if_pos c1, if_neg (by omega)]
    by_cases hq : rg.getD j 0 = rg.getD k 0
    ·rw [hq, v1, look_same]
    ·rw [k1 _ hq (by omega), hold, look_other _ _ hq]
   ·rw [if_neg (by omega), if_pos c1] at hold;rw [if_neg (by omega), if_pos c1, m1];exact hold
 ·have e1 : gR rg (k : Int) 9 = 9 := by unfold gR; rw [Int.toNat_natCast, if_neg (by omega)]
  have e2 : kC rg sl (k : Int) (gR rg (k : Int) 9) = [stI 15 (64 + sl.getD k 0) 9] := by rw [e1]; unfold kC; rw [Int.toNat_natCast, if_pos (by omega)]
  rw [e2, e1];obtain ⟨o1, v1, k1, m1⟩ := vex 9 (by decide);rw [hval] at v1;have z1 : (exL (valC rg sl nd nr 9 x) s).R 15 = 0 := (k1 15 (by omega) (by omega)).trans hb.h.z;rw [exL_app]
  have ef : exL [stI 15 (64 + sl.getD k 0) 9] (exL (valC rg sl nd nr 9 x) s) = ⟨(exL (valC rg sl nd nr 9 x) s).R, up s.M (64 + sl.getD k 0) v⟩ := by
   show ex1 (stI 15 (64 + sl.getD k 0) 9) _ = _;rw [ex_st, z1, v1, m1, Int.zero_add, Int.emod_eq_of_lt hv32.1 hv32.2]
  refine ⟨okL_app _ _ _ o1 ⟨ok_st _ _ _ _ (by rw [z1]; omega), trivial⟩, ?_⟩;rw [ef];refine ⟨⟨z1, (k1 14 zo zo).trans hb.h.bd, (k1 13 zo zo).trans hb.h.br, fun i hi => ?_⟩, fun j hj => ?_⟩
  ·show up s.M _ v i = _;rw [up_ne _ _ (by omega)]; exact hb.h.m i hi
  ·rw [hstep];unfold plV rdP stepH stepK;simp only [Int.toNat_natCast];rw [if_pos a, if_pos a]
   by_cases hjk : j = k
   ·subst hjk;rw [if_neg (by omega), if_pos a, up_at, look_same]
   ·have hold := hb.v j (by omega);unfold plV rdP at hold;simp only [Int.toNat_natCast] at hold;rcases hp j (by omega) with ⟨c1, c2⟩ | ⟨c1, c2, c3⟩
    ·rw [if_pos c1, if_neg (by omega)] at hold;rw [if_pos c1, if_neg (by omega), k1 _ (by omega) (by omega)];exact hold
    ·rw [if_neg (by omega), if_pos c1] at hold;rw [if_neg (by omega), if_pos c1]
     by_cases hq : sl.getD j 0 = sl.getD k 0
     ·rw [hq, up_at, look_same]
     ·rw [up_ne _ _ (by omega), look_other _ _ hq];exact hold
theorem body_ex {c : List II} {d r rg sl : List Int} {M0 : Int → Int} {nd nr : Int} {s : MS} (h : Hld M0 nd nr d r s) (hp : PlB rg sl c.length) (hlr : rg.length = c.length) (hm : ∀ (k : Nat) (x : II), c[k]? = some x → madeB nd nr x (k : Int) = true) (hi : ∀ x ∈ c, 0 ≤ x.2.2.2.2 ∧ x.2.2.2.2 < 4294967296) (hl : Lay M0 d r) (hd32 : V32 d) (hr32 : V32 r) (hnd : 0 ≤ nd ∧ nd ≤ (d.length : Int)) (hnr : 0 ≤ nr ∧ nr ≤ (r.length : Int)) :
    ∀ k, k ≤ c.length → okL (bodyC rg sl nd nr c k) s ∧ BInv c d r rg sl M0 nd nr k (exL (bodyC rg sl nd nr c k) s)
 | 0, _ => ⟨trivial, h, fun j hj => by omega⟩
 | k + 1, hk => by
  obtain ⟨o1, b1⟩ := body_ex h hp hlr hm hi hl hd32 hr32 hnd hnr k (by omega);have hx : c[k]? = some (c[k]'(by omega)) := List.getElem?_eq_getElem _;obtain ⟨o2, b2⟩ := one_ex b1 hx hp hlr (hm k _ hx) hi hl hd32 hr32 hnd hnr
  have e : bodyC rg sl nd nr c (k + 1) = bodyC rg sl nd nr c k ++ oneC rg sl nd nr k (c[k]'(by omega)) := by
   show (match c[k]? with | some x => _ | none => _) = _;rw [hx]
  rw [e, exL_app];exact ⟨okL_app _ _ _ o1 o2, b2⟩
theorem out_ex {rg sl : List Int} {n : Nat} {V : Int → Int} {bs frm B : Int} (hp : PlB rg sl n) (hbs : bs = 13 ∨ bs = 14) : ∀ (l : List Int) (k : Int) (s : MS), s.R 15 = 0 → s.R bs = B → (∀ x ∈ l, 0 ≤ x ∧ x < (n : Int) ∧ plV rg sl s x = V x ∧ u32P (V x)) → 0 ≤ B + frm + k → B + frm + k + (l.length : Int) ≤ 64 →
    okL (outC rg sl bs frm l k) s ∧ (∀ i, i ≠ 7 → (exL (outC rg sl bs frm l k) s).R i = s.R i) ∧ (∀ i : Nat, i < l.length → (exL (outC rg sl bs frm l k) s).M (B + frm + k + (i : Int)) = V (l.getD i 0)) ∧ (∀ a, a < B + frm + k ∨ B + frm + k + (l.length : Int) ≤ a → (exL (outC rg sl bs frm l k) s).M a = s.M a)
 | [], k, s, _, _, _, _, _ => ⟨trivial, fun _ _ => rfl, fun i h => by simp at h, fun _ _ => rfl⟩
 | x :: l, k, s, hz, hB, hv, h0, h1 => by
  obtain ⟨x0, x1, x2, x3⟩ := hv x (List.mem_cons_self ..);obtain ⟨o1, v1, k1, m1⟩ := get_ex (into := 7) s hp x0 x1 hz;simp only [List.length_cons] at h1;have z1 := (k1 15 (by decide)).trans hz;have b1 : (exL (gC rg sl x 7) s).R bs = B := (k1 bs (by omega)).trans hB
  have e2 : ex1 (stI bs (frm + k) (gR rg x 7)) (exL (gC rg sl x 7) s) = ⟨(exL (gC rg sl x 7) s).R, up s.M (B + (frm + k)) (V x)⟩ := by
   rw [ex_st, b1, v1, x2, m1, Int.emod_eq_of_lt x3.1 x3.2]
  have hpl : ∀ y, 0 ≤ y → y < (n : Int) → plV rg sl ⟨(exL (gC rg sl x 7) s).R, up s.M (B + (frm + k)) (V x)⟩ y = plV rg sl s y := fun y y0 y1 => by
   unfold plV;rcases hp y.toNat (by omega) with ⟨a, b⟩ | ⟨a, b, c⟩
   ·rw [if_pos a, if_pos a]; exact k1 _ (by omega)
   ·rw [if_neg (by omega), if_neg (by omega)]; exact up_ne _ _ (by omega)
  obtain ⟨o3, k3, v3, m3⟩ := out_ex (frm := frm) (B := B) hp hbs l (k + 1) ⟨(exL (gC rg sl x 7) s).R, up s.M (B + (frm + k)) (V x)⟩ z1 b1 (fun y hy => by
   obtain ⟨y0, y1, y2, y3⟩ := hv y (List.mem_cons_of_mem _ hy)
   exact ⟨y0, y1, (hpl y y0 y1).trans y2, y3⟩) (by omega) (by omega)
  show okL (gC rg sl x 7 ++ (stI bs (frm + k) (gR rg x 7) :: outC rg sl bs frm l (k + 1))) s ∧ _
  have e3 : exL (outC rg sl bs frm (x :: l) k) s = exL (outC rg sl bs frm l (k + 1)) ⟨(exL (gC rg sl x 7) s).R, up s.M (B + (frm + k)) (V x)⟩ := by
   show exL (gC rg sl x 7 ++ (stI bs (frm + k) (gR rg x 7) :: outC rg sl bs frm l (k + 1))) s = _;rw [exL_app];show exL (outC rg sl bs frm l (k + 1)) (ex1 (stI bs (frm + k) (gR rg x 7)) _) = _;rw [e2]
  rw [e3];refine ⟨okL_app _ _ _ o1 ⟨ok_st bs (frm + k) (gR rg x 7) _ (by rw [b1]; omega), by rw [e2]; exact o3⟩, fun i hi => (k3 i hi).trans (k1 i hi), fun i hi => ?_, fun a ha => ?_⟩
  ·cases i with
   | zero =>
    rw [m3 (B + frm + k + ((0 : Nat) : Int)) (by omega), show B + frm + k + ((0 : Nat) : Int) = B + (frm + k) by simp; omega];simp only;rw [up_at]; rfl
   | succ i =>
    have := v3 i (by simpa using hi);rw [show B + frm + k + ((i + 1 : Nat) : Int) = B + frm + (k + 1) + (i : Int) by omega, this]; rfl
  ·simp only [List.length_cons] at ha;rw [m3 a (by omega)];exact up_ne _ _ (by omega)
theorem stack_ex {rg sl : List Int} {n : Nat} {V : Int → Int} {bs frm word B : Int} (hp : PlB rg sl n) (hbs : bs = 13 ∨ bs = 14) (l : List Int) (s : MS) (hz : s.R 15 = 0) (hB : s.R bs = B) (hv : ∀ x ∈ l, 0 ≤ x ∧ x < (n : Int) ∧ plV rg sl s x = V x ∧ u32P (V x)) (h0 : 0 ≤ B) (hf : 0 ≤ frm) (h1 : B + frm + (l.length : Int) ≤ 64) (hw : 0 ≤ word ∧ word < 4 ∧ 4 ≤ frm) :
    okL (stackC rg sl bs frm word l) s ∧ (∀ i, i ≠ 7 → i ≠ 11 → (exL (stackC rg sl bs frm word l) s).R i = s.R i) ∧ (∀ i : Nat, i < l.length → (exL (stackC rg sl bs frm word l) s).M (B + frm + (i : Int)) = V (l.getD i 0)) ∧ (exL (stackC rg sl bs frm word l) s).M word = (l.length : Int) + B ∧
    (∀ a, a ≠ word → (a < B + frm ∨ B + frm + (l.length : Int) ≤ a) → (exL (stackC rg sl bs frm word l) s).M a = s.M a) := by
 obtain ⟨o1, k1, v1, m1⟩ := out_ex (frm := frm) (B := B) hp hbs l 0 s hz hB hv (by omega) (by omega);unfold stackC;rw [exL_app];obtain ⟨t, ht⟩ : ∃ t, t = exL (outC rg sl bs frm l 0) s := ⟨_, rfl⟩;rw [← ht] at k1 v1 m1;have zt := (k1 15 (by decide)).trans hz;have bt := (k1 bs (by omega)).trans hB
 have e : exL [liI 11 (l.length : Int), opI 3 11 11 bs, stI 15 word 11] t = ⟨up (up t.R 11 (l.length : Int)) 11 ((l.length : Int) + B), up t.M word ((l.length : Int) + B)⟩ := by
  show ex1 (stI 15 word 11) (ex1 (opI 3 11 11 bs) (ex1 (liI 11 (l.length : Int)) t)) = _;rw [ex_li, ex_op _ _ _ _ (by decide), ex_st]
  have e1 : hI 3 (up t.R 11 (l.length : Int) 11) (up t.R 11 (l.length : Int) bs) = (l.length : Int) + B := by
   rw [up_at, up_ne _ _ (by omega), bt];show ((l.length : Int) + B) % 18446744073709551616 = _;omega
  simp only [e1];rw [up_ne _ _ (by decide), up_ne _ _ (by decide), zt, up_at, Int.zero_add, show ((l.length : Int) + B) % 4294967296 = (l.length : Int) + B by omega]
 rw [← ht, e];refine ⟨okL_app _ _ _ o1 ⟨ok_li _ _ _, ok_op _ _ _ _ (by decide), ok_st _ _ _ _ ?_, trivial⟩, fun i h7 h11 => ?_, fun i hi => ?_, up_at _ _ _, fun a ha hb => ?_⟩
 ·rw [← ht, ex_op _ _ _ _ (by decide), ex_li];simp [up, zt]; omega
 ·simp only [up, if_neg h11]; exact k1 i h7
 ·simp only;rw [up_ne _ _ (by omega)];have := v1 i hi;rw [show B + frm + 0 + (i : Int) = B + frm + (i : Int) by omega] at this;exact this
 ·simp only;rw [up_ne _ _ ha];exact m1 a (by omega)
section
variable {code : List II} {p : Nat} {s : MS} {base word need most cnt E : Int}
theorem stp_line {x : II} (hx : code[p]? = some x) (ho : ok1 x s) : stp code s p = some (ex1 x s, p + 1) := by
 obtain ⟨h1, h2⟩ := ho;unfold stp;rw [hx];simp only;rw [if_pos h1]
 by_cases h : x.1 = 14 ∨ x.1 = 15
 ·rw [if_pos h, if_pos (h2 h)]
 ·rw [if_neg h]
theorem stp_bnez {ra imm : Int} (hx : code[p]? = some (17, 0, ra, 0, imm)) : stp code s p = if s.R ra = 0 then some (s, p + 1) else some (s, imm.toNat) := by
 unfold stp;rw [hx]
 by_cases h : s.R ra = 0 <;> simp [h]
theorem stp_beqz {ra imm : Int} (hx : code[p]? = some (16, 0, ra, 0, imm)) : stp code s p = if s.R ra = 0 then some (s, imm.toNat) else some (s, p + 1) := by
 unfold stp;rw [hx]
 by_cases h : s.R ra = 0 <;> simp [h]
theorem Steps.one {t : MS} {j : Nat} (h : stp code s p = some (t, j)) : Steps code 1 s p t j := ⟨t, j, h, rfl, rfl⟩
theorem room_ex (hc : ∀ i x, (roomC base word need most E)[i]? = some x → code[p + i]? = some x) (hz : s.R 15 = 0) (hm : s.M word = cnt) (hw : 0 ≤ word ∧ word < 256) (hb : base = 13 ∨ base = 14) (hn : 0 ≤ need ∧ need < 100) (hq : 0 ≤ cnt ∧ cnt < 100) (hmo : 0 ≤ most ∧ most < 100) :
    ((need ≤ cnt ∧ cnt ≤ most) → ∃ t, Steps code 8 s p t (p + 8) ∧ t.R base = cnt - need ∧ (∀ i, i ≠ base → i ≠ 11 → i ≠ 12 → t.R i = s.R i) ∧ t.M = s.M) ∧
    (¬ (need ≤ cnt ∧ cnt ≤ most) → ∃ n t, n ≤ 8 ∧ Steps code n s p t E.toNat ∧ t.M = s.M) := by
 obtain ⟨a1, ha1⟩ : ∃ t, t = ex1 (opI 12 12 base 11) (ex1 (liI 11 need) (ex1 (ldI base 15 word) s)) := ⟨_, rfl⟩;have e1 : ex1 (ldI base 15 word) s = ⟨up s.R base cnt, s.M⟩ := by rw [ex_ld, hz, Int.zero_add, hm]
 have e3 : a1 = ⟨up (up (up s.R base cnt) 11 need) 12 (if cnt < need then 1 else 0), s.M⟩ := by
  rw [ha1, e1, ex_li, ex_op _ _ _ _ (by decide)];simp only;rw [up_ne _ _ (show base ≠ 11 by omega), up_at, up_at]; rfl
 have s3 : Steps code 3 s p a1 (p + 3) := by
  rw [ha1];refine steps_line [ldI base 15 word, liI 11 need, opI 12 12 base 11] s p (fun i x h => ?_) ⟨ok_ld _ _ _ _ (by rw [hz]; omega), ok_li _ _ _, ok_op _ _ _ _ (by decide), trivial⟩;refine hc i x ?_;rcases i with _ | _ | _ | i
  ·exact h
  ·exact h
  ·exact h
  ·simp at h
 have b4 := stp_bnez (s := a1) (hc 3 _ rfl);have r12 : a1.R 12 = if cnt < need then 1 else 0 := by rw [e3]; simp only; rw [up_at]
 rw [r12] at b4
 by_cases q1 : cnt < need
 ·rw [if_pos q1, if_neg (by decide)] at b4;exact ⟨fun h => by omega, fun _ => ⟨3 + 1, a1, by omega, s3.app (Steps.one b4), by rw [e3]⟩⟩
 ·rw [if_neg q1, if_pos rfl] at b4;have s4 := s3.app (Steps.one b4);obtain ⟨a2, ha2⟩ : ∃ t, t = ex1 (opI 12 12 12 base) (ex1 (liI 12 most) a1) := ⟨_, rfl⟩
  have e6 : a2 = ⟨up (up (up (up (up s.R base cnt) 11 need) 12 (if cnt < need then 1 else 0)) 12 most) 12 (if most < cnt then 1 else 0), s.M⟩ := by
   rw [ha2, e3, ex_li, ex_op _ _ _ _ (by decide)];simp only;rw [up_at, up_ne _ _ (show base ≠ 12 by omega), up_ne _ _ (show base ≠ 12 by omega), up_ne _ _ (show base ≠ 11 by omega), up_at]; rfl
  have s6 : Steps code 2 a1 (p + 3 + 1) a2 (p + 3 + 1 + 2) := by
   rw [ha2];refine steps_line [liI 12 most, opI 12 12 12 base] a1 (p + 3 + 1) (fun i x h => ?_) ⟨ok_li _ _ _, ok_op _ _ _ _ (by decide), trivial⟩;rw [show p + 3 + 1 + i = p + (4 + i) by omega];refine hc (4 + i) x ?_;rcases i with _ | _ | i
   ·exact h
   ·exact h
   ·simp at h
  have b7 := stp_bnez (s := a2) (show code[p + 3 + 1 + 2]? = some (17, 0, 12, 0, E) from hc 6 _ rfl);have r12' : a2.R 12 = if most < cnt then 1 else 0 := by rw [e6]; simp only; rw [up_at]
  rw [r12'] at b7
  by_cases q2 : most < cnt
  ·rw [if_pos q2, if_neg (by decide)] at b7;exact ⟨fun h => by omega, fun _ => ⟨3 + 1 + 2 + 1, a2, by omega, (s4.app s6).app (Steps.one b7), by rw [e6]⟩⟩
  ·rw [if_neg q2, if_pos rfl] at b7;refine ⟨fun _ => ⟨ex1 (opI 4 base base 11) a2, ((s4.app s6).app (Steps.one b7)).app (m := 1) (Steps.one (stp_line (show code[p + 3 + 1 + 2 + 1]? = _ from hc 7 _ rfl) (ok_op _ _ _ _ (by decide)))), ?_, fun i h1 h2 h3 => ?_, ?_⟩, fun h => by omega⟩
   ·rw [ex_op _ _ _ _ (by decide), e6];show up _ base _ base = _;rw [up_at];simp only;rw [up_ne _ _ (show base ≠ 12 by omega), up_ne _ _ (show base ≠ 12 by omega), up_ne _ _ (show base ≠ 12 by omega), up_ne _ _ (show base ≠ 11 by omega), up_at, up_ne _ _ (show (11 : Int) ≠ 12 by decide), up_ne _ _ (show (11 : Int) ≠ 12 by decide), up_ne _ _ (show (11 : Int) ≠ 12 by decide), up_at];show (cnt - need) % 18446744073709551616 = _;omega
   ·rw [ex_op _ _ _ _ (by decide), e6];show up _ base _ i = _;rw [up_ne _ _ h1];simp only;rw [up_ne _ _ h3, up_ne _ _ h3, up_ne _ _ h3, up_ne _ _ h2, up_ne _ _ h1]
   ·rw [ex_op _ _ _ _ (by decide), e6]
end
theorem and15I {x : Int} (h : u32P x) : hI 5 15 x = x % 16 := by
 obtain ⟨n, rfl⟩ := Int.eq_ofNat_of_zero_le h.1;show (((15 : Int).toNat &&& (n : Int).toNat : Nat) : Int) = _;rw [Int.toNat_natCast, Nat.and_comm, show (15 : Int).toNat = 2 ^ 4 - 1 by decide, Nat.and_two_pow_sub_one_eq_mod];omega
theorem fl_ex {rg sl : List Int} {n : Nat} {V : List Int} {fl f0 : Int} (s : MS) (hp : PlB rg sl n) (hz : s.R 15 = 0) (hfl : fl = -1 ∨ (0 ≤ fl ∧ fl < (n : Int))) (hv : 0 ≤ fl → plV rg sl s fl = V.getD fl.toNat 0 ∧ u32P (V.getD fl.toNat 0)) (hf : s.M 1 = f0) :
    okL (flC rg sl fl) s ∧ (∀ i, i ≠ 7 → i ≠ 11 → (exL (flC rg sl fl) s).R i = s.R i) ∧ (exL (flC rg sl fl) s).M 1 = leftF V fl f0 ∧ (∀ a, a ≠ 1 → (exL (flC rg sl fl) s).M a = s.M a) := by
 unfold flC leftF;rcases hfl with rfl | ⟨h0, h1⟩
 ·rw [if_neg (by decide), if_pos rfl];exact ⟨trivial, fun _ _ _ => rfl, hf, fun _ _ => rfl⟩
 ·obtain ⟨v0, v1⟩ := hv h0;rw [if_pos h0, if_neg (by omega)];have hz1 : (ex1 (liI 11 15) s).R 15 = 0 := by rw [ex_li]; simp only; rw [up_ne _ _ (by decide)]; exact hz
  obtain ⟨o1, w1, k1, m1⟩ := get_ex (into := 7) (ex1 (liI 11 15) s) hp h0 h1 hz1
  have hpl : plV rg sl (ex1 (liI 11 15) s) fl = plV rg sl s fl := by
   rw [ex_li];unfold plV;rcases hp fl.toNat (by omega) with ⟨a, b⟩ | ⟨a, b, c⟩
   ·rw [if_pos a, if_pos a]; simp only; rw [up_ne _ _ (by omega)]
   ·rw [if_neg (by omega), if_neg (by omega)]
  obtain ⟨t, ht⟩ : ∃ t, t = exL (gC rg sl fl 7) (ex1 (liI 11 15) s) := ⟨_, rfl⟩;rw [← ht] at w1 k1 m1;have r11 : t.R 11 = 15 := by rw [k1 11 (by decide), ex_li]; simp only; rw [up_at]
  have r15 : t.R 15 = 0 := (k1 15 (by decide)).trans hz1
  have ee : exL (liI 11 15 :: (gC rg sl fl 7 ++ [opI 5 11 11 (gR rg fl 7), stI 15 1 11])) s = ⟨up t.R 11 (V.getD fl.toNat 0 % 16), up t.M 1 (V.getD fl.toNat 0 % 16)⟩ := by
   show exL (gC rg sl fl 7 ++ [opI 5 11 11 (gR rg fl 7), stI 15 1 11]) (ex1 (liI 11 15) s) = _;rw [exL_app, ← ht];show ex1 (stI 15 1 11) (ex1 (opI 5 11 11 (gR rg fl 7)) t) = _;have hv0 : hI 5 (t.R 11) (t.R (gR rg fl 7)) = V.getD fl.toNat 0 % 16 := by rw [r11, w1, hpl, v0, and15I v1]
   rw [ex_op _ _ _ _ (by decide), hv0, ex_st];simp only;rw [up_ne _ _ (by decide), r15, up_at, Int.zero_add, show V.getD fl.toNat 0 % 16 % 4294967296 = V.getD fl.toNat 0 % 16 by omega]
  rw [ee];refine ⟨⟨ok_li _ _ _, okL_app _ _ _ o1 ⟨ok_op _ _ _ _ (by decide), ok_st _ _ _ _ ?_, trivial⟩⟩, fun i h7 h11 => ?_, ?_, fun a ha => ?_⟩
  ·rw [← ht, ex_op _ _ _ _ (by decide)];simp [up, r15]
  ·simp only;rw [up_ne _ _ h11, k1 i h7, ex_li]; simp only; rw [up_ne _ _ h11]
  ·simp only;rw [up_at]
  ·simp only;rw [up_ne _ _ ha, m1, ex_li]
theorem and_bit {F : Int} (h : 0 ≤ F ∧ F ≤ 15) {b : Int} (hb : b = 1 ∨ b = 2 ∨ b = 4 ∨ b = 8) : hI 5 F b = bits .and .u32 F b := (bits_u32 ⟨h.1, by omega⟩ ⟨by omega, by omega⟩).1
theorem br_ex {code : List II} {p : Nat} {s : MS} {br tk F nx : Int} (hc : ∀ i x, (brC br tk ((p : Int) + 3))[i]? = some x → code[p + i]? = some x) (hz : s.R 15 = 0) (hf : s.M 1 = F) (hF : 0 ≤ F ∧ F ≤ 15) (hbr : br = 0 ∨ (33 ≤ br ∧ br ≤ 37)) (h9 : s.R 9 = nx) :
    ∃ n t, n ≤ 5 ∧ Steps code n s p t (p + (brC br tk ((p : Int) + 3)).length) ∧ t.R 9 = (if hK br = true ∧ hB br F = true then tk else nx) ∧ (∀ i, i ≠ 9 → i ≠ 11 → i ≠ 12 → t.R i = s.R i) ∧ t.M = s.M := by
 rcases hbr with rfl | hbr
 ·refine ⟨0, s, by omega, ⟨rfl, rfl⟩, ?_, fun _ _ _ _ => rfl, rfl⟩;rw [h9, if_neg]; intro h; exact absurd h.1 (by decide)
 ·have hlen : brC br tk ((p : Int) + 3) = [ldI 11 15 1, liI 12 (bitO br), opI 5 11 11 12, (if br = 34 then 17 else 16, 0, 11, 0, ((p : Int) + 3) + 2), liI 9 tk] := by unfold brC; rw [if_neg (by omega)]
  rw [hlen] at hc ⊢;obtain ⟨a, ha⟩ : ∃ t, t = ex1 (opI 5 11 11 12) (ex1 (liI 12 (bitO br)) (ex1 (ldI 11 15 1) s)) := ⟨_, rfl⟩
  have ea : a = ⟨up (up (up s.R 11 F) 12 (bitO br)) 11 (hI 5 F (bitO br)), s.M⟩ := by
   rw [ha, ex_ld, hz, Int.zero_add, hf, ex_li, ex_op _ _ _ _ (by decide)];simp only;rw [up_ne _ _ (by decide), up_at, up_at]
  have s3 : Steps code 3 s p a (p + 3) := by
   rw [ha];refine steps_line [ldI 11 15 1, liI 12 (bitO br), opI 5 11 11 12] s p (fun i x h => ?_) ⟨ok_ld _ _ _ _ (by rw [hz]; omega), ok_li _ _ _, ok_op _ _ _ _ (by decide), trivial⟩;refine hc i x ?_;rcases i with _ | _ | _ | i
   ·exact h
   ·exact h
   ·exact h
   ·simp at h
  have hbit : bitO br = 1 ∨ bitO br = 2 ∨ bitO br = 4 ∨ bitO br = 8 := by unfold bitO; (repeat' split) <;> omega
  have r11 : a.R 11 = bits .and .u32 F (bitO br) := by rw [ea]; simp only; rw [up_at]; exact and_bit hF hbit
  have r9 : a.R 9 = nx := by rw [ea]; simp only; rw [up_ne _ _ (by decide), up_ne _ _ (by decide), up_ne _ _ (by decide)]; exact h9
  have hk : hK br = true := by unfold hK; simp; omega
  have rk : ∀ i, i ≠ 9 → i ≠ 11 → i ≠ 12 → a.R i = s.R i := fun i h1 h2 h3 => by rw [ea]; simp only; rw [up_ne _ _ h2, up_ne _ _ h3, up_ne _ _ h2]
  have rm : a.M = s.M := by rw [ea]
  have skip : stp code a (p + 3) = some (a, p + 5) → hB br F = false → ∃ n t, n ≤ 5 ∧ Steps code n s p t (p + 5) ∧ t.R 9 = (if hK br = true ∧ hB br F = true then tk else nx) ∧ (∀ i, i ≠ 9 → i ≠ 11 → i ≠ 12 → t.R i = s.R i) ∧ t.M = s.M := fun h hb =>
   ⟨3 + 1, a, by omega, s3.app (Steps.one h), by rw [r9, if_neg (by rw [hb]; simp)], rk, rm⟩
  have go : stp code a (p + 3) = some (a, p + 3 + 1) → hB br F = true → ∃ n t, n ≤ 5 ∧ Steps code n s p t (p + 5) ∧ t.R 9 = (if hK br = true ∧ hB br F = true then tk else nx) ∧ (∀ i, i ≠ 9 → i ≠ 11 → i ≠ 12 → t.R i = s.R i) ∧ t.M = s.M := fun h hb =>
   ⟨3 + 1 + 1, ex1 (liI 9 tk) a, by omega, (s3.app (Steps.one h)).app (Steps.one (stp_line (show code[p + 3 + 1]? = _ from hc 4 _ rfl) (ok_li _ _ _))), by rw [ex_li, if_pos ⟨hk, hb⟩]; simp only; rw [up_at], fun i h1 h2 h3 => by rw [ex_li]; simp only; rw [up_ne _ _ h1]; exact rk i h1 h2 h3, by rw [ex_li]; exact rm⟩
  have ej : ((p : Int) + 3 + 2).toNat = p + 5 := by omega
  by_cases h34 : br = 34
  ·subst h34;have hx : code[p + 3]? = some (17, 0, 11, 0, (p : Int) + 3 + 2) := hc 3 _ rfl;have b4 := stp_bnez (s := a) hx;rw [r11, show bitO 34 = 1 from rfl, ej] at b4
   by_cases q : bits .and .u32 F 1 = 0
   ·rw [if_pos q] at b4;exact go b4 (by unfold hB; simp [q])
   ·rw [if_neg q] at b4;exact skip b4 (by unfold hB; simp [q])
  ·have hx : code[p + 3]? = some (16, 0, 11, 0, (p : Int) + 3 + 2) := hc 3 _ (by simp [h34]);have b4 := stp_beqz (s := a) hx;rw [r11, ej] at b4
   have hbb : hB br F = (bits .and .u32 F (bitO br) != 0) := by
    rcases (by omega : br = 33 ∨ br = 35 ∨ br = 36 ∨ br = 37) with rfl | rfl | rfl | rfl <;> rfl
   by_cases q : bits .and .u32 F (bitO br) = 0
   ·rw [if_pos q] at b4;exact skip b4 (by rw [hbb]; simp [q])
   ·rw [if_neg q] at b4;exact go b4 (by rw [hbb]; simp [q])
theorem tg_ex {rg sl : List Int} {n : Nat} {V : List Int} {tg w : Int} (s : MS) (hp : PlB rg sl n) (hz : s.R 15 = 0) (htg : tg = -1 ∨ (0 ≤ tg ∧ tg < (n : Int))) (hv : 0 ≤ tg → plV rg sl s tg = V.getD tg.toNat 0) (h9 : s.R 9 = w) :
    okL (tgC rg sl tg) s ∧ (exL (tgC rg sl tg) s).R 9 = (if tg = -1 then w else V.getD tg.toNat 0) ∧ (∀ i, i ≠ 7 → i ≠ 9 → (exL (tgC rg sl tg) s).R i = s.R i) ∧ (exL (tgC rg sl tg) s).M = s.M := by
 unfold tgC;rcases htg with rfl | ⟨h0, h1⟩
 ·rw [if_neg (by decide), if_pos rfl];exact ⟨trivial, h9, fun _ _ _ => rfl, rfl⟩
 ·rw [if_pos h0, if_neg (by omega)];obtain ⟨o1, w1, k1, m1⟩ := get_ex (into := 7) s hp h0 h1 hz;rw [exL_app];refine ⟨okL_app _ _ _ o1 ⟨ok_op (op := 2) 9 _ 0 _ (by decide), trivial⟩, ?_, fun i h7 h9 => ?_, ?_⟩
  ·show (ex1 (opI 2 9 (gR rg tg 7) 0) _).R 9 = _;rw [ex_op _ _ _ _ (by decide)];simp only;rw [up_at];show (exL (gC rg sl tg 7) s).R (gR rg tg 7) = _;rw [w1, hv h0]
  ·show (ex1 (opI 2 9 (gR rg tg 7) 0) _).R i = _;rw [ex_op _ _ _ _ (by decide)];simp only;rw [up_ne _ _ h9]; exact k1 i h7
  ·show (ex1 (opI 2 9 (gR rg tg 7) 0) _).M = _;rw [ex_op _ _ _ _ (by decide)];exact m1
theorem fin_ex {ct w : Int} (s : MS) (hz : s.R 15 = 0) (h9 : s.R 9 = w) (hw : u32P w) (hct : u32P ct) : okL (finC ct) s ∧ (exL (finC ct) s).M = up (up s.M 0 w) 36 ct := by
 have e : exL (finC ct) s = ⟨up s.R 11 ct, up (up s.M 0 w) 36 ct⟩ := by
  have e1 : ex1 (stI 15 0 9) s = ⟨s.R, up s.M 0 w⟩ := by rw [ex_st, hz, h9, Int.zero_add, Int.emod_eq_of_lt hw.1 hw.2]
  show ex1 (stI 15 36 11) (ex1 (liI 11 ct) (ex1 (stI 15 0 9) s)) = _;rw [e1, ex_li, ex_st];simp only;rw [up_ne _ _ (by decide), hz, up_at, Int.zero_add, Int.emod_eq_of_lt hct.1 hct.2]
 rw [e];refine ⟨⟨ok_st _ _ _ _ (by rw [hz]; omega), ok_li _ _ _, ok_st _ _ _ _ ?_, trivial⟩, rfl⟩;rw [ex_li, ex_st];simp [up, hz]
theorem steps_in {code a l b : List II} {s : MS} {p : Nat} (hc : ∀ (i : Nat) (x : II), (a ++ (l ++ b))[i]? = some x → code[i]? = some x) (hp : p = a.length) (h : okL l s) : Steps code l.length s p (exL l s) (p + l.length) := by
 subst hp;refine steps_line l s a.length (fun i x hx => hc _ x ?_) h;rw [List.getElem?_append_right (by omega), show a.length + i - a.length = i by omega, List.getElem?_append_left (List.getElem?_eq_some_iff.1 hx).1]; exact hx
theorem in_at {code a l b : List II} {p : Nat} (hc : ∀ (i : Nat) (x : II), (a ++ (l ++ b))[i]? = some x → code[i]? = some x) (hp : p = a.length) : ∀ (i : Nat) (x : II), l[i]? = some x → code[p + i]? = some x := fun i x hx => by
 subst hp;refine hc _ x ?_;rw [List.getElem?_append_right (by omega), show a.length + i - a.length = i by omega, List.getElem?_append_left (List.getElem?_eq_some_iff.1 hx).1]; exact hx
structure Laid (M0 : Int → Int) (d r : List Int) (pc f0 : Int) : Prop where
 lay : Lay M0 d r
 pc : M0 0 = pc
 fl : M0 1 = f0
 nd : M0 2 = (d.length : Int)
 nr : M0 3 = (r.length : Int)
 ct : M0 36 = 0
 f15 : 0 ≤ f0 ∧ f0 ≤ 15
 d32 : V32 d
 r32 : V32 r
structure Left (M : Int → Int) (D R : List Int) (pc f ct : Int) : Prop where
 pc : M 0 = pc
 fl : M 1 = f
 nd : M 2 = (D.length : Int)
 nr : M 3 = (R.length : Int)
 d : ∀ i : Nat, i < D.length → M (4 + (i : Int)) = D.getD i 0
 r : ∀ i : Nat, i < R.length → M (20 + (i : Int)) = R.getD i 0
 ct : M 36 = ct
theorem putL_left {V l : List Int} {n : Nat} {out : List Int} {i : Nat} (h : i < l.length - n) : (putL V l n out).getD i 0 = l.getD i 0 := by
 unfold putL;rw [List.getD_eq_getElem?_getD, List.getD_eq_getElem?_getD, List.getElem?_append_left (by simp; omega), List.getElem?_take_of_lt h]
theorem putL_right {V l : List Int} {n : Nat} {out : List Int} {i : Nat} (hi : i < out.length) (hn : n ≤ l.length) : (putL V l n out).getD (l.length - n + i) 0 = V.getD (out.getD i 0).toNat 0 := by
 unfold putL;have h1 : (l.take (l.length - n)).length = l.length - n := by simp
 rw [List.getD_eq_getElem?_getD, List.getElem?_append_right (by omega), h1, show l.length - n + i - (l.length - n) = i by omega, List.getElem?_map, List.getD_eq_getElem?_getD (l := out), List.getElem?_eq_getElem hi]; rfl
theorem putL_len9 (V l : List Int) {n : Nat} (out : List Int) (hn : n ≤ l.length) : (putL V l n out).length = l.length - n + out.length := by unfold putL; simp
theorem emit_fit {code : List II} {c : List II} {od rd rg sl d r : List Int} {nd nr hd hr fl nx tg br tk ct pc f0 E : Int} {s : MS} (hR : RightP c od rd nd nr hd hr fl tg br ct (c.length : Int)) (hi : ∀ x ∈ c, 0 ≤ x.2.2.2.2 ∧ x.2.2.2.2 < 4294967296) (hp : PlB rg sl c.length) (hlr : rg.length = c.length) (hl : Laid s.M d r pc f0)
    (hc : ∀ (i : Nat) (x : II), (fullC rg sl nd nr hd hr fl nx tg br tk ct c od rd E)[i]? = some x → code[i]? = some x) (hnx : u32P nx) (htk : u32P tk) (hct : u32P ct)
    (hfd : nd ≤ (d.length : Int) ∧ (d.length : Int) + hd ≤ 16) (hfr : nr ≤ (r.length : Int) ∧ (r.length : Int) + hr ≤ 16) (htd : (d.length : Int) - nd + (od.length : Int) ≤ 16) (htr : (r.length : Int) - nr + (rd.length : Int) ≤ 16) :
    ∃ n t, n ≤ (fullC rg sl nd nr hd hr fl nx tg br tk ct c od rd E).length + 5 ∧ Steps code n s 0 t ((fullC rg sl nd nr hd hr fl nx tg br tk ct c od rd E).length - 1) ∧ code[(fullC rg sl nd nr hd hr fl nx tg br tk ct c od rd E).length - 1]? = some (19, 0, 0, 0, 1) ∧
     Left t.M (putL (evW c d r rg sl c.length) d nd.toNat od) (putL (evW c d r rg sl c.length) r nr.toNat rd) (leftP (evW c d r rg sl c.length) nx tg br tk (leftF (evW c d r rg sl c.length) fl f0)) (leftF (evW c d r rg sl c.length) fl f0) ct := by
 have q3 := hR.nd_; have q4 := hR.nr_; have q5 := hR.hd_; have q6 := hR.hr_;obtain ⟨V, hV⟩ : ∃ V, V = evW c d r rg sl c.length := ⟨_, rfl⟩;have hV32 : V32 V := by rw [hV]; exact evW_32 hl.d32 hl.r32 hi _
 rw [← hV];have hdl := hl.lay.dl; have hrl := hl.lay.rl;obtain ⟨H, hH⟩ : ∃ H, H = headC nd nr (mostO nd hd (od.length : Int)) (mostO nr hr (rd.length : Int)) E := ⟨_, rfl⟩;obtain ⟨D, hD⟩ : ∃ D, D = midC rg sl nd nr fl nx c od rd := ⟨_, rfl⟩;obtain ⟨B, hBq⟩ : ∃ B, B = brC br tk ((17 + D.length : Nat) + 3) := ⟨_, rfl⟩;obtain ⟨Z, hZ⟩ : ∃ Z, Z = tgC rg sl tg ++ finC ct := ⟨_, rfl⟩;have hHl : H.length = 17 := by rw [hH]; rfl
 have hF : fullC rg sl nd nr hd hr fl nx tg br tk ct c od rd E = H ++ (D ++ (B ++ (Z ++ [(19, 0, 0, 0, 1)]))) := by
  unfold fullC tailC; rw [hBq, hD, hH, hZ, List.append_assoc]
 rw [hF] at hc ⊢
 -- the rooms
 have z0 : okL [liI 15 0] s := ⟨ok_li _ _ _, trivial⟩;have c0 : ∀ (i : Nat) (x : II), ([] ++ ([liI 15 0] ++ ((roomC 14 2 nd (mostO nd hd (od.length : Int)) E ++ roomC 13 3 nr (mostO nr hr (rd.length : Int)) E) ++ (D ++ (B ++ (Z ++ [(19, 0, 0, 0, 1)]))))))[i]? = some x → code[i]? = some x := fun i x h => hc i x (by rw [hH]; exact h)
 have st0 := steps_in c0 (p := 0) rfl z0;obtain ⟨s0, hs0⟩ : ∃ t, t = exL [liI 15 0] s := ⟨_, rfl⟩;rw [← hs0] at st0;have e0 : s0 = ⟨up s.R 15 0, s.M⟩ := by rw [hs0]; exact ex_li _ _ _
 have c1 : ∀ (i : Nat) (x : II), ([liI 15 0] ++ (roomC 14 2 nd (mostO nd hd (od.length : Int)) E ++ (roomC 13 3 nr (mostO nr hr (rd.length : Int)) E ++ (D ++ (B ++ (Z ++ [(19, 0, 0, 0, 1)]))))))[i]? = some x → code[i]? = some x := fun i x h => hc i x (by rw [hH]; simpa [headC] using h)
 obtain ⟨s1, st1, v1, k1, m1⟩ := (room_ex (s := s0) (cnt := (d.length : Int)) (in_at c1 (p := 1) rfl) (by rw [e0]; simp only; rw [up_at]) (by rw [e0]; exact hl.nd) (by decide) (.inr rfl) (by omega) (by omega) (by unfold mostO; omega)).1 ⟨hfd.1, by unfold mostO; omega⟩;have c2 : ∀ (i : Nat) (x : II), ((liI 15 0 :: roomC 14 2 nd (mostO nd hd (od.length : Int)) E) ++ (roomC 13 3 nr (mostO nr hr (rd.length : Int)) E ++ (D ++ (B ++ (Z ++ [(19, 0, 0, 0, 1)])))))[i]? = some x → code[i]? = some x := fun i x h => hc i x (by rw [hH]; simpa [headC] using h)
 obtain ⟨s2, st2, v2, k2, m2⟩ := (room_ex (s := s1) (cnt := (r.length : Int)) (in_at c2 (p := 9) rfl) (by rw [k1 15 (by decide) (by decide) (by decide), e0]; simp only; rw [up_at]) (by rw [m1, e0]; exact hl.nr) (by decide) (.inl rfl) (by omega) (by omega) (by unfold mostO; omega)).1 ⟨hfr.1, by unfold mostO; omega⟩;have hm2 : s2.M = s.M := by rw [m2, m1, e0]
 have hh2 : Hld s.M nd nr d r s2 := ⟨by rw [k2 15 (by decide) (by decide) (by decide), k1 15 (by decide) (by decide) (by decide), e0]; simp only; rw [up_at], by rw [k2 14 (by decide) (by decide) (by decide), v1], v2, fun i _ => by rw [hm2]⟩
 -- the values
 obtain ⟨ob, bb⟩ := body_ex hh2 hp hlr hR.code hi hl.lay hl.d32 hl.r32 ⟨q3.1, hfd.1⟩ ⟨q4.1, hfr.1⟩ c.length (Nat.le_refl _);obtain ⟨s3, hs3⟩ : ∃ t, t = exL (bodyC rg sl nd nr c c.length) s2 := ⟨_, rfl⟩;rw [← hs3] at bb
 have hpl3 : ∀ x : Int, 0 ≤ x → x < (c.length : Int) → plV rg sl s3 x = V.getD x.toNat 0 ∧ u32P (V.getD x.toNat 0) := fun x h0 h1 => by
  have := bb.v x.toNat (by omega);rw [show (x.toNat : Int) = x by omega] at this;rw [this, hV];refine ⟨(rdV_at zo).symm, ?_⟩;rw [← hV]; exact hV32.getD _
 have plc : ∀ (t : MS), (∀ i, i < 7 → t.R i = s3.R i) → (∀ a, 64 ≤ a → t.M a = s3.M a) → ∀ x : Int, 0 ≤ x → x < (c.length : Int) → plV rg sl t x = plV rg sl s3 x := fun t h1 h2 x x0 x1 => by
  unfold plV;rcases hp x.toNat (by omega) with ⟨a, b⟩ | ⟨a, b, e⟩
  ·rw [if_pos a, if_pos a, h1 _ b]
  ·rw [if_neg (by omega), if_neg (by omega), h2 _ (by omega)]
 have hod : ∀ x ∈ od, 0 ≤ x ∧ x < (c.length : Int) := fun x hx => by obtain ⟨k, hk⟩ := List.mem_iff_getElem?.1 hx; exact valB_iff2.1 (hR.od_ k x hk)
 have hrd : ∀ x ∈ rd, 0 ≤ x ∧ x < (c.length : Int) := fun x hx => by obtain ⟨k, hk⟩ := List.mem_iff_getElem?.1 hx; exact valB_iff2.1 (hR.rd_ k x hk)
 -- the stacks
 obtain ⟨o4, k4, v4, w4, m4⟩ := stack_ex (V := fun x => V.getD x.toNat 0) (bs := 14) (frm := 4) (word := 2) (B := (d.length : Int) - nd) hp (.inr rfl) od s3 bb.h.z bb.h.bd (fun x hx => ⟨(hod x hx).1, (hod x hx).2, (hpl3 x (hod x hx).1 (hod x hx).2).1, (hpl3 x (hod x hx).1 (hod x hx).2).2⟩) (by omega) (by decide) (by omega) (by decide);obtain ⟨s4, hs4⟩ : ∃ t, t = exL (stackC rg sl 14 4 2 od) s3 := ⟨_, rfl⟩;rw [← hs4] at k4 v4 w4 m4;have pl4 := plc s4 (fun i h => k4 i (by omega) (by omega)) (fun a h => m4 a (by omega) (by omega));obtain ⟨o5, k5, v5, w5, m5⟩ := stack_ex (V := fun x => V.getD x.toNat 0) (bs := 13) (frm := 20) (word := 3) (B := (r.length : Int) - nr) hp (.inl rfl) rd s4 ((k4 15 (by decide) (by decide)).trans bb.h.z) ((k4 13 (by decide) (by decide)).trans bb.h.br) (fun x hx => ⟨(hrd x hx).1, (hrd x hx).2, (pl4 x (hrd x hx).1 (hrd x hx).2).trans (hpl3 x (hrd x hx).1 (hrd x hx).2).1, (hpl3 x (hrd x hx).1 (hrd x hx).2).2⟩) (by omega) (by decide) (by omega) (by decide);obtain ⟨s5, hs5⟩ : ∃ t, t = exL (stackC rg sl 13 20 3 rd) s4 := ⟨_, rfl⟩;rw [← hs5] at k5 v5 w5 m5;have pl5 := plc s5 (fun i h => (k5 i (by omega) (by omega)).trans (k4 i (by omega) (by omega))) (fun a h => (m5 a (by omega) (by omega)).trans (m4 a (by omega) (by omega)));have z5 : s5.R 15 = 0 := (k5 15 (by decide) (by decide)).trans ((k4 15 (by decide) (by decide)).trans bb.h.z)
 -- flags
 have hfl9 : fl = -1 ∨ (0 ≤ fl ∧ fl < (c.length : Int)) := hR.fl_.imp id fun h => valB_iff2.1 h
 have htg9 : tg = -1 ∨ (0 ≤ tg ∧ tg < (c.length : Int)) := hR.tg_.imp id fun h => valB_iff2.1 h
 obtain ⟨o6, k6, w6, m6⟩ := fl_ex (V := V) (f0 := f0) s5 hp z5 hfl9 (fun h => by
  have h1 : fl < (c.length : Int) := by rcases hfl9 with q | q <;> omega
  exact ⟨(pl5 fl h h1).trans (hpl3 fl h h1).1, (hpl3 fl h h1).2⟩) (by rw [m5 1 (by decide) (by omega), m4 1 (by decide) (by omega), bb.h.m 1 (by decide)]; exact hl.fl)
 obtain ⟨s6, hs6⟩ : ∃ t, t = exL (flC rg sl fl) s5 := ⟨_, rfl⟩;rw [← hs6] at k6 w6 m6;obtain ⟨F, hFF⟩ : ∃ F, F = leftF V fl f0 := ⟨_, rfl⟩;rw [← hFF] at w6 ⊢
 have hF15 : 0 ≤ F ∧ F ≤ 15 := by
  rw [hFF]; unfold leftF;split
  ·exact hl.f15
  ·omega
 obtain ⟨s7, hs7⟩ : ∃ t, t = ex1 (liI 9 nx) s6 := ⟨_, rfl⟩;have e7 : s7 = ⟨up s6.R 9 nx, s6.M⟩ := by rw [hs7]; exact ex_li _ _ _
 have z6 : s6.R 15 = 0 := (k6 15 (by decide) (by decide)).trans z5;have z7 : s7.R 15 = 0 := by rw [e7]; simp only; rw [up_ne _ _ (by decide)]; exact z6
 have om : okL D s2 := by
  rw [hD]; unfold midC;refine okL_app _ _ _ ob ?_;rw [← hs3];refine okL_app _ _ _ o4 ?_;rw [← hs4];refine okL_app _ _ _ o5 ?_;rw [← hs5];exact okL_app _ _ _ o6 ⟨ok_li _ _ _, trivial⟩
 have em : exL D s2 = s7 := by
  rw [hD]; unfold midC;rw [exL_app, ← hs3, exL_app, ← hs4, exL_app, ← hs5, exL_app, ← hs6, hs7]; rfl
 have st3 := steps_in hc (p := 17) hHl.symm om;rw [em] at st3
 -- the place
 have c4 : ∀ (i : Nat) (x : II), ((H ++ D) ++ (B ++ (Z ++ [(19, 0, 0, 0, 1)])))[i]? = some x → code[i]? = some x := fun i x h => hc i x (by simpa using h)
 have hbr : br = 0 ∨ (33 ≤ br ∧ br ≤ 37) := by
  rcases hR.br_ with h | h
  ·exact .inl h
  ·exact .inr ⟨h.1, h.2.1⟩
 have cb := in_at c4 (p := 17 + D.length) (by simp [hHl]);rw [hBq] at cb;obtain ⟨nb, s8, hnb, st4, v8, k8, m8⟩ := br_ex (s := s7) (F := F) (nx := nx) cb z7 (by rw [e7]; exact w6) hF15 hbr (by rw [e7]; simp only; rw [up_at]);rw [← hBq] at st4;have z8 : s8.R 15 = 0 := (k8 15 (by decide) (by decide) (by decide)).trans z7;have pl8 := plc s8 (fun i h => by rw [k8 i (by omega) (by omega) (by omega), e7]; simp only; rw [up_ne _ _ (by omega), k6 i (by omega) (by omega), k5 i (by omega) (by omega), k4 i (by omega) (by omega)]) (fun a h => by rw [m8, e7]; simp only; rw [m6 a (by omega), m5 a (by omega) (by omega), m4 a (by omega) (by omega)])
 obtain ⟨o9, v9, k9, m9⟩ := tg_ex (V := V) s8 hp z8 htg9 (fun h => by
  have h1 : tg < (c.length : Int) := by rcases htg9 with q | q <;> omega
  exact (pl8 tg h h1).trans (hpl3 tg h h1).1) v8
 obtain ⟨s9, hs9⟩ : ∃ t, t = exL (tgC rg sl tg) s8 := ⟨_, rfl⟩;rw [← hs9] at v9 k9 m9
 have hpc : (if tg = -1 then (if hK br = true ∧ hB br F = true then tk else nx) else V.getD tg.toNat 0) = leftP V nx tg br tk F := by
  unfold leftP
  by_cases q : hK br = true ∧ hB br F = true
  ·have : tg = -1 := by
     rcases hR.br_ with h | h
     ·rw [h] at q; exact absurd q.1 (by decide)
     ·exact h.2.2
   rw [if_pos this, if_pos q, if_pos q]
  ·rw [if_neg q, if_neg q]
 rw [hpc] at v9
 have hpc32 : u32P (leftP V nx tg br tk F) := by
  unfold leftP;split
  ·exact htk
  ·split
   ·exact hnx
   ·exact hV32.getD _
 obtain ⟨oa, ma⟩ := fin_ex (ct := ct) s9 ((k9 15 (by decide) (by decide)).trans z8) v9 hpc32 hct;have oz : okL Z s8 := by rw [hZ]; exact okL_app _ _ _ o9 (by rw [← hs9]; exact oa)
 have c5 : ∀ (i : Nat) (x : II), ((H ++ (D ++ B)) ++ (Z ++ [(19, 0, 0, 0, 1)]))[i]? = some x → code[i]? = some x := fun i x h => hc i x (by simpa using h)
 have st5 := steps_in c5 (p := 17 + D.length + B.length) (by simp [hHl]; omega) oz;have ez : (exL Z s8).M = up (up s9.M 0 (leftP V nx tg br tk F)) 36 ct := by rw [hZ, exL_app, ← hs9]; exact ma
 have hlen : (H ++ (D ++ (B ++ (Z ++ [((19 : Int), (0 : Int), (0 : Int), (0 : Int), (1 : Int))])))).length - 1 = 17 + D.length + B.length + Z.length := by simp [hHl]; omega
 refine ⟨_, exL Z s8, ?_, by rw [hlen]; exact ((((st0.app st1).app st2).app st3).app st4).app st5, ?_, ?_⟩
 ·simp [hHl]; omega
 ·rw [hlen];refine hc _ _ ?_;rw [show 17 + D.length + B.length + Z.length = (H ++ (D ++ (B ++ Z))).length by simp [hHl]; omega, show H ++ (D ++ (B ++ (Z ++ [((19 : Int), (0 : Int), (0 : Int), (0 : Int), (1 : Int))]))) = (H ++ (D ++ (B ++ Z))) ++ [(19, 0, 0, 0, 1)] by simp];simp
 ·have eM : ∀ a, a ≠ 0 → a ≠ 36 → a ≠ 1 → (exL Z s8).M a = s5.M a := fun a h0 h36 h1 => by
    rw [ez, up_ne _ _ h36, up_ne _ _ h0, m9, m8, e7]; exact m6 a h1
  have hdn : nd.toNat ≤ d.length := by omega
  have hrn : nr.toNat ≤ r.length := by omega
  refine ⟨by rw [ez, up_ne _ _ (by decide), up_at], by rw [ez, up_ne _ _ (by decide), up_ne _ _ (by decide), m9, m8, e7]; exact w6, ?_, ?_, fun i hi => ?_, fun i hi => ?_, by rw [ez, up_at]⟩
  ·rw [eM 2 (by decide) (by decide) (by decide), m5 2 (by decide) (by omega), w4, putL_len9 _ _ _ hdn]; omega
  ·rw [eM 3 (by decide) (by decide) (by decide), w5, putL_len9 _ _ _ hrn]; omega
  ·rw [putL_len9 _ _ _ hdn] at hi;rw [eM _ (by omega) (by omega) (by omega), m5 _ (by omega) (by omega)]
   by_cases q : i < d.length - nd.toNat
   ·rw [m4 _ (by omega) (by omega), putL_left q, bb.h.m _ (by omega)];exact hl.lay.ld i (by omega)
   ·obtain ⟨j, rfl⟩ : ∃ j, i = d.length - nd.toNat + j := ⟨i - (d.length - nd.toNat), by omega⟩;rw [putL_right (by omega) hdn];have := v4 j (by omega);rw [show (d.length : Int) - nd + 4 + (j : Int) = 4 + ((d.length - nd.toNat + j : Nat) : Int) by omega] at this;exact this
  ·rw [putL_len9 _ _ _ hrn] at hi;rw [eM _ (by omega) (by omega) (by omega)]
   by_cases q : i < r.length - nr.toNat
   ·rw [m5 _ (by omega) (by omega), m4 _ (by omega) (by omega), putL_left q, bb.h.m _ (by omega)];exact hl.lay.lr i (by omega)
   ·obtain ⟨j, rfl⟩ : ∃ j, i = r.length - nr.toNat + j := ⟨i - (r.length - nr.toNat), by omega⟩;rw [putL_right (by omega) hrn];have := v5 j (by omega);rw [show (r.length : Int) - nr + 20 + (j : Int) = 20 + ((r.length - nr.toNat + j : Nat) : Int) by omega] at this;exact this
theorem head_no {code : List II} {d r : List Int} {nd nr hd hr md mr pc f0 E : Int} {s : MS} (hc : ∀ (i : Nat) (x : II), (headC nd nr md mr E)[i]? = some x → code[i]? = some x) (hl : Laid s.M d r pc f0) (q3 : 0 ≤ nd ∧ nd ≤ 16) (q4 : 0 ≤ nr ∧ nr ≤ 16) (hmd : 0 ≤ md ∧ md < 100) (hmr : 0 ≤ mr ∧ mr < 100)
    (hno : ¬ ((nd ≤ (d.length : Int) ∧ (d.length : Int) ≤ md) ∧ (nr ≤ (r.length : Int) ∧ (r.length : Int) ≤ mr))) : ∃ n t, n ≤ 17 ∧ Steps code n s 0 t E.toNat ∧ t.M = s.M := by
 have hdl := hl.lay.dl; have hrl := hl.lay.rl;have c0 : ∀ (i : Nat) (x : II), ([] ++ ([liI 15 0] ++ (roomC 14 2 nd md E ++ roomC 13 3 nr mr E)))[i]? = some x → code[i]? = some x := hc;have st0 := steps_in c0 (p := 0) rfl (s := s) ⟨ok_li _ _ _, trivial⟩;obtain ⟨s0, hs0⟩ : ∃ t, t = exL [liI 15 0] s := ⟨_, rfl⟩;rw [← hs0] at st0;have e0 : s0 = ⟨up s.R 15 0, s.M⟩ := by rw [hs0]; exact ex_li _ _ _
 have c1 : ∀ (i : Nat) (x : II), ([liI 15 0] ++ (roomC 14 2 nd md E ++ roomC 13 3 nr mr E))[i]? = some x → code[i]? = some x := hc;obtain ⟨r1, r2⟩ := room_ex (s := s0) (cnt := (d.length : Int)) (in_at c1 (p := 1) rfl) (by rw [e0]; simp only; rw [up_at]) (by rw [e0]; exact hl.nd) (by decide) (.inr rfl) (by omega) (by omega) hmd
 by_cases h1 : nd ≤ (d.length : Int) ∧ (d.length : Int) ≤ md
 ·obtain ⟨s1, st1, v1, k1, m1⟩ := r1 h1;have c2 : ∀ (i : Nat) (x : II), ((liI 15 0 :: roomC 14 2 nd md E) ++ (roomC 13 3 nr mr E ++ []))[i]? = some x → code[i]? = some x := fun i x h => hc i x (by simpa [headC] using h)
  obtain ⟨n, t, hn, st2, m2⟩ := (room_ex (s := s1) (cnt := (r.length : Int)) (in_at c2 (p := 9) rfl) (by rw [k1 15 (by decide) (by decide) (by decide), e0]; simp only; rw [up_at]) (by rw [m1, e0]; exact hl.nr) (by decide) (.inl rfl) (by omega) (by omega) hmr).2 (fun q => hno ⟨h1, q⟩);exact ⟨_, t, by simp; omega, (st0.app st1).app st2, by rw [m2, m1, e0]⟩
 ·obtain ⟨n, t, hn, st1, m1⟩ := r2 h1;exact ⟨_, t, by simp; omega, st0.app st1, by rw [m1, e0]⟩
theorem full_len (rg sl : List Int) (nd nr hd hr fl nx tg br tk ct : Int) (c : List II) (od rd : List Int) (E : Int) : (fullC rg sl nd nr hd hr fl nx tg br tk ct c od rd E).length = (fullC rg sl nd nr hd hr fl nx tg br tk ct c od rd 0).length := by
 simp [fullC, headC, roomC]
theorem gC_len (rg sl : List Int) (n into : Int) : (gC rg sl n into).length ≤ 1 := by unfold gC; split <;> simp
theorem aluC_len (op rd a b : Int) : (aluC op rd a b).length ≤ 3 := by unfold aluC; split <;> simp [lowC]
theorem flagC_len (op a b : Int) : (flagC op a b).length ≤ 30 := by
 have h := aluC_len op 9 a b;unfold flagC;split
 ·simp [signC, bitC, ovC]; omega
 ·split
  ·simp [signC, bitC, ovC]; omega
  ·simp [signC, bitC]; omega
theorem oneC_len (rg sl : List Int) (nd nr : Int) (n : Nat) (x : II) : (oneC rg sl nd nr n x).length ≤ 34 := by
 have h1 := gC_len rg sl x.2.2.1 7;have h2 := gC_len rg sl x.2.2.2.1 8;have h3 := aluC_len x.2.2.2.2 (gR rg n 9) (gR rg x.2.2.1 7) (gR rg x.2.2.2.1 8);have h4 := flagC_len x.2.2.2.2 (gR rg x.2.2.1 7) (gR rg x.2.2.2.1 8);have h5 : (kC rg sl n (gR rg n 9)).length ≤ 1 := by unfold kC; split <;> simp
 have h6 : (valC rg sl nd nr (gR rg n 9) x).length ≤ 33 := by
  unfold valC;split
  ·simp
  ·split
   ·simp
   ·split
    ·simp
    ·split
     ·simp; omega
     ·simp; omega
 unfold oneC;simp; omega
theorem bodyC_len (rg sl : List Int) (nd nr : Int) (c : List II) : ∀ k, (bodyC rg sl nd nr c k).length ≤ 34 * k
 | 0 => by simp [bodyC]
 | k + 1 => by
  have h := bodyC_len rg sl nd nr c k;show (match c[k]? with | some x => _ | none => _ : List II).length ≤ _;split
  ·rename_i x hx;have := oneC_len rg sl nd nr k x;rw [List.length_append]; omega
  ·omega
theorem outC_len (rg sl : List Int) (bs frm : Int) : ∀ (l : List Int) (k : Int), (outC rg sl bs frm l k).length ≤ 2 * l.length
 | [], _ => by simp [outC]
 | x :: l, k => by
  have h := outC_len rg sl bs frm l (k + 1);have h2 := gC_len rg sl x 7;unfold outC;rw [List.length_append, List.length_cons, List.length_cons]; omega
theorem full_most {rg sl : List Int} {nd nr hd hr fl nx tg br tk ct : Int} {c : List II} {od rd : List Int} (hc : c.length ≤ 64) (hod : od.length ≤ 40) (hrd : rd.length ≤ 40) (E : Int) : (fullC rg sl nd nr hd hr fl nx tg br tk ct c od rd E).length ≤ 3000 := by
 have h1 := bodyC_len rg sl nd nr c c.length;have h2 := outC_len rg sl 14 4 od 0;have h3 := outC_len rg sl 13 20 rd 0;have h4 : (flC rg sl fl).length ≤ 4 := by have := gC_len rg sl fl 7; unfold flC; split <;> simp; omega
 have h5 : (brC br tk ((17 + (midC rg sl nd nr fl nx c od rd).length : Nat) + 3)).length ≤ 5 := by unfold brC; split <;> simp
 have h6 : (tgC rg sl tg).length ≤ 2 := by have := gC_len rg sl tg 7; unfold tgC; split <;> simp; omega
 have h7 : (midC rg sl nd nr fl nx c od rd).length ≤ 34 * c.length + (2 * od.length + 3) + (2 * rd.length + 3) + 5 := by
  unfold midC stackC;simp; omega
 unfold fullC tailC;simp [headC, roomC, finC];simp at h5;omega
structure Ends (code : List II) (s : MS) (imm : Int) (t : MS) : Prop where
 ends : ∃ n j, n < 4096 ∧ Steps code n s 0 t j ∧ code[j]? = some (exitI imm)
theorem emit_ok {c : List II} {od rd rg sl d r : List Int} {nd nr hd hr fl nx tg br tk ct pc f0 : Int} {s : MS} (hR : RightP c od rd nd nr hd hr fl tg br ct (c.length : Int)) (hi : ∀ x ∈ c, 0 ≤ x.2.2.2.2 ∧ x.2.2.2.2 < 4294967296) (hp : PlB rg sl c.length) (hlr : rg.length = c.length) (hl : Laid s.M d r pc f0) (hnx : u32P nx) (htk : u32P tk) (hct : u32P ct) :
    (((nd ≤ (d.length : Int) ∧ (d.length : Int) + hd ≤ 16) ∧ (nr ≤ (r.length : Int) ∧ (r.length : Int) + hr ≤ 16) ∧ ((d.length : Int) - nd + (od.length : Int) ≤ 16) ∧ ((r.length : Int) - nr + (rd.length : Int) ≤ 16)) →
     ∃ t, Ends (emitC rg sl nd nr hd hr fl nx tg br tk ct c od rd) s 1 t ∧ Left t.M (putL (evW c d r rg sl c.length) d nd.toNat od) (putL (evW c d r rg sl c.length) r nr.toNat rd) (leftP (evW c d r rg sl c.length) nx tg br tk (leftF (evW c d r rg sl c.length) fl f0)) (leftF (evW c d r rg sl c.length) fl f0) ct) ∧
    (¬ ((nd ≤ (d.length : Int) ∧ (d.length : Int) + hd ≤ 16) ∧ (nr ≤ (r.length : Int) ∧ (r.length : Int) + hr ≤ 16) ∧ ((d.length : Int) - nd + (od.length : Int) ≤ 16) ∧ ((r.length : Int) - nr + (rd.length : Int) ≤ 16)) →
     ∃ t, Ends (emitC rg sl nd nr hd hr fl nx tg br tk ct c od rd) s 2 t ∧ t.M = s.M) := by
 have q3 := hR.nd_; have q4 := hR.nr_; have q5 := hR.hd_; have q6 := hR.hr_; have hlen := hR.len;have hdl := hl.lay.dl; have hrl := hl.lay.rl;have hmd : mostO nd hd (od.length : Int) < 100 := by unfold mostO; omega
 have hmr : mostO nr hr (rd.length : Int) < 100 := by unfold mostO; omega
 unfold emitC
 by_cases g1 : mostO nd hd (od.length : Int) < nd
 ·rw [if_pos g1];refine ⟨fun h => ?_, fun _ => ⟨ex1 (liI 15 0) s, ⟨1, 1, by omega, Steps.one (stp_line rfl (ok_li _ _ _)), rfl⟩, rfl⟩⟩;exfalso; unfold mostO at g1; omega
 ·rw [if_neg g1]
  by_cases g2 : mostO nr hr (rd.length : Int) < nr
  ·rw [if_pos g2];refine ⟨fun h => ?_, fun _ => ?_⟩
   ·exfalso; unfold mostO at g2; omega
   ·have st0 : Steps (liI 15 0 :: (roomC 14 2 nd (mostO nd hd (od.length : Int)) 9 ++ [exitI 2])) 1 s 0 (ex1 (liI 15 0) s) 1 := Steps.one (stp_line rfl (ok_li _ _ _));have hin : ∀ (i : Nat) (x : II), (roomC 14 2 nd (mostO nd hd (od.length : Int)) 9)[i]? = some x → (liI 15 0 :: (roomC 14 2 nd (mostO nd hd (od.length : Int)) 9 ++ [exitI 2]))[1 + i]? = some x := in_at (a := [liI 15 0]) (b := [exitI 2]) (fun i x h => h) rfl;obtain ⟨r1, r2⟩ := room_ex (s := ex1 (liI 15 0) s) (cnt := (d.length : Int)) hin (by rw [ex_li]; simp only; rw [up_at]) (by rw [ex_li]; exact hl.nd) (by decide) (.inr rfl) (by omega) (by omega) (by omega)
    by_cases h1 : nd ≤ (d.length : Int) ∧ (d.length : Int) ≤ mostO nd hd (od.length : Int)
    ·obtain ⟨t, st1, _, _, m1⟩ := r1 h1;exact ⟨t, ⟨_, 9, by omega, st0.app st1, rfl⟩, m1⟩
    ·obtain ⟨n, t, hn, st1, m1⟩ := r2 h1;exact ⟨t, ⟨_, 9, by omega, st0.app st1, rfl⟩, m1⟩
  ·rw [if_neg g2];have hE := full_len rg sl nd nr hd hr fl nx tg br tk ct c od rd ((fullC rg sl nd nr hd hr fl nx tg br tk ct c od rd 0).length : Int)
   have hpre : ∀ (i : Nat) (x : II), (fullC rg sl nd nr hd hr fl nx tg br tk ct c od rd ((fullC rg sl nd nr hd hr fl nx tg br tk ct c od rd 0).length : Int))[i]? = some x → (fullC rg sl nd nr hd hr fl nx tg br tk ct c od rd ((fullC rg sl nd nr hd hr fl nx tg br tk ct c od rd 0).length : Int) ++ [exitI 2])[i]? = some x := fun i x h => by
    rw [List.getElem?_append_left (List.getElem?_eq_some_iff.1 h).1]; exact h
   refine ⟨fun ⟨h1, h2, h3, h4⟩ => ?_, fun h => ?_⟩
   ·obtain ⟨n, t, hn, st, hx, hL⟩ := emit_fit hR hi hp hlr hl hpre hnx htk hct h1 h2 h3 h4;have := full_most (rg := rg) (sl := sl) (nd := nd) (nr := nr) (hd := hd) (hr := hr) (fl := fl) (nx := nx) (tg := tg) (br := br) (tk := tk) (ct := ct) (c := c) (od := od) (rd := rd) (by omega) (by omega) (by omega) ((fullC rg sl nd nr hd hr fl nx tg br tk ct c od rd 0).length : Int);exact ⟨t, ⟨n, _, by omega, st, hx⟩, hL⟩
   ·obtain ⟨n, t, hn, st, hm⟩ := head_no (hd := hd) (hr := hr) (E := ((fullC rg sl nd nr hd hr fl nx tg br tk ct c od rd 0).length : Int)) (fun i x q => hpre i x (by
      show (headC nd nr (mostO nd hd (od.length : Int)) (mostO nr hr (rd.length : Int)) ((fullC rg sl nd nr hd hr fl nx tg br tk ct c od rd 0).length : Int) ++ _)[i]? = some x
      rw [List.getElem?_append_left (List.getElem?_eq_some_iff.1 q).1]; exact q)) hl q3 q4 (md := mostO nd hd (od.length : Int)) (mr := mostO nr hr (rd.length : Int)) (by omega) (by omega) (fun q => h (by unfold mostO at q; omega))
    rw [Int.toNat_natCast] at st;refine ⟨t, ⟨n, _, by omega, st, ?_⟩, hm⟩;rw [List.getElem?_append_right (by rw [hE]; exact Nat.le_refl _), hE, Nat.sub_self]; rfl
abbrev rg16 (n : Int) : Prop := 0 ≤ n ∧ n < 16
instance (n : Int) : Decidable (u32P n) := inferInstanceAs (Decidable (0 ≤ n ∧ n < 4294967296))
theorem u32_0 : u32P 0 := by decide
theorem regB_of {n : Int} (h : rg16 n) : regB n = true := by unfold regB; rw [decide_eq_true h.1, decide_eq_true h.2]; rfl
theorem AllR.nil : AllR [] := fun x h => by cases h
theorem AllR.cons {x : II} {l : List II} (h : hrI x) (k : AllR l) : AllR (x :: l) := fun y hy => by
 rcases List.mem_cons.1 hy with rfl | q
 ·exact h
 ·exact k y q
theorem AllR.app {a b : List II} (h : AllR a) (k : AllR b) : AllR (a ++ b) := fun y hy => (List.mem_append.1 hy).elim (h y) (k y)
theorem AllR.one {x : II} (h : hrI x) : AllR [x] := AllR.cons h AllR.nil
theorem r_li {rd v : Int} (h : rg16 rd) (hv : u32P v) : hrI (liI rd v) := ⟨by
 show hrB 1 rd 0 0 v = true
 unfold hrB; rw [regB_of h]; rfl, hv⟩
theorem r_op {op rd ra rb : Int} (ho : 3 ≤ op ∧ op ≤ 13) (h1 : rg16 rd) (h2 : rg16 ra) (h3 : rg16 rb) : hrI (opI op rd ra rb) := ⟨by
 show hrB op rd ra rb 0 = true
 unfold hrB; rw [regB_of h1, regB_of h2, regB_of h3, if_neg (by omega), if_neg (by omega), if_neg (by omega), if_pos ho]; rfl, u32_0⟩
theorem r_mov {rd ra : Int} (h1 : rg16 rd) (h2 : rg16 ra) : hrI (2, rd, ra, 0, 0) := ⟨by
 show hrB 2 rd ra 0 0 = true
 unfold hrB; rw [regB_of h1, regB_of h2]; rfl, u32_0⟩
theorem r_ld {rd ra a : Int} (h1 : rg16 rd) (h2 : rg16 ra) (ha : u32P a) : hrI (ldI rd ra a) := ⟨by
 show hrB 14 rd ra 0 a = true
 unfold hrB; rw [regB_of h1, regB_of h2]; rfl, ha⟩
theorem r_st {ra a rb : Int} (h1 : rg16 ra) (h2 : rg16 rb) (ha : u32P a) : hrI (stI ra a rb) := ⟨by
 show hrB 15 0 ra rb a = true
 unfold hrB; rw [regB_of h1, regB_of h2]; rfl, ha⟩
theorem r_bz {op ra a : Int} (ho : op = 16 ∨ op = 17) (h1 : rg16 ra) (ha : u32P a) : hrI (op, 0, ra, 0, a) := ⟨by
 show hrB op 0 ra 0 a = true
 rcases ho with rfl | rfl <;> (unfold hrB; rw [regB_of h1]; rfl), ha⟩
theorem r_exit {a : Int} (ha : u32P a) : hrI (exitI a) := ⟨by show hrB 19 0 0 0 a = true; rfl, ha⟩
theorem r_small {a : Int} (h : 0 ≤ a ∧ a < 4096) : u32P a := ⟨h.1, by omega⟩
theorem lowC_r {r : Int} (h : rg16 r) : AllR (lowC r) := .cons (r_li (by decide) ⟨by decide, by decide⟩) (.one (r_op (by decide) h h (by decide)))
theorem host3 (op : Int) : 3 ≤ hostO op ∧ hostO op ≤ 13 := by unfold hostO; (repeat' split) <;> omega
theorem aluC_r {op rd a b : Int} (h1 : rg16 rd) (h2 : rg16 a) (h3 : rg16 b) : AllR (aluC op rd a b) := .cons (r_op (host3 op) h1 h2 h3) (by split; exact AllR.nil; exact lowC_r h1)
theorem bitC_r {r u : Int} (h : rg16 r) (hu : u32P u) : AllR (bitC r u) := .cons (r_li (by decide) hu) (.cons (r_op (by decide) h h (by decide)) (.one (r_op (by decide) (by decide) (by decide) h)))
theorem signC_r {rd r : Int} (h : rg16 rd) (h2 : rg16 r) : AllR (signC rd r) := .cons (r_li (by decide) ⟨by decide, by decide⟩) (.one (r_op (by decide) h h2 (by decide)))
theorem ovC_r : AllR ovC := .cons (r_op (by decide) (by decide) (by decide) (by decide)) ((signC_r (by decide) (by decide)).app (bitC_r (by decide) ⟨by decide, by decide⟩))
theorem flagC_r {op a b : Int} (h2 : rg16 a) (h3 : rg16 b) : AllR (flagC op a b) := by
 have t (x : Int) (hx : rg16 x) (y : Int) (hy : rg16 y) (z : Int) (hz : rg16 z) : AllR (opI 7 11 x y :: opI 7 12 z 9 :: ovC) := .cons (r_op (by decide) (by decide) hx hy) (.cons (r_op (by decide) (by decide) hz (by decide)) ovC_r);unfold flagC;refine (aluC_r (by decide) h2 h3).app (.cons (r_op (by decide) (by decide) (by decide) (by decide)) ((signC_r (by decide) (by decide)).app ((bitC_r (by decide) ⟨by decide, by decide⟩).app ?_)));split
 ·exact .cons (r_op (by decide) (by decide) (by decide) h2) ((bitC_r (by decide) ⟨by decide, by decide⟩).app (t _ h2 _ (by decide) _ h3))
 ·split
  ·exact .cons (r_op (by decide) (by decide) h2 h3) ((bitC_r (by decide) ⟨by decide, by decide⟩).app (t _ h2 _ h3 _ h2))
  ·exact AllR.nil
section
variable {rg sl : List Int} {n : Nat}
theorem gR_16 {x into : Int} (hp : PlB rg sl n) (h0 : 0 ≤ x) (h1 : x < (n : Int)) (hi : rg16 into) : rg16 (gR rg x into) := by
 unfold rg16;rcases gR_lt (into := into) hp h0 h1 with ⟨a, b, _⟩ | ⟨a, _⟩
 ·omega
 ·rw [a]; exact hi
theorem gC_r {x into : Int} (hp : PlB rg sl n) (h0 : 0 ≤ x) (h1 : x < (n : Int)) (hi : rg16 into) : AllR (gC rg sl x into) := by
 unfold gC;rcases hp x.toNat (by omega) with ⟨a, b⟩ | ⟨a, b, c⟩
 ·rw [if_pos a]; exact AllR.nil
 ·rw [if_neg (by omega)]; exact .one (r_ld hi (by decide) (r_small (by omega)))
theorem kC_r {k : Nat} {r : Int} (hp : PlB rg sl n) (h1 : k < n) (hi : rg16 r) : AllR (kC rg sl k r) := by
 unfold kC;rw [Int.toNat_natCast];rcases hp k h1 with ⟨a, b⟩ | ⟨a, b, c⟩
 ·rw [if_neg (by omega)]; exact AllR.nil
 ·rw [if_pos (by omega)]; exact .one (r_st (by decide) hi (r_small (by omega)))
theorem oneC_r {nd nr : Int} {k : Nat} {x : II} (hp : PlB rg sl n) (h1 : k < n) (hm : madeB nd nr x (k : Int) = true) (hi : u32P x.2.2.2.2) (hnd : 0 ≤ nd ∧ nd ≤ 16) (hnr : 0 ≤ nr ∧ nr ≤ 16) : AllR (oneC rg sl nd nr k x) := by
 have hrd : rg16 (gR rg (k : Int) 9) := gR_16 hp (by omega) (by omega) (by decide);refine AllR.app ?_ (kC_r hp h1 hrd);obtain ⟨o, dd, a, b, im⟩ := x;obtain ⟨_, hc⟩ := made_cases hm;simp only at hi;unfold valC;simp only;have hi2 := hi.1;rcases hc with ⟨rfl, ha, hb⟩ | ⟨rfl, ha, hb, hn⟩ | ⟨rfl, ha, hb, hn⟩ | ⟨rfl, ha, hb, h3, h2⟩ | ⟨rfl, ha, hb, h3, h2⟩ | ⟨rfl, ha, hb, h3⟩
 ·exact .one (r_li hrd hi)
 ·exact .one (r_ld hrd (by decide) (r_small (by omega)))
 ·exact .one (r_ld hrd (by decide) (r_small (by omega)))
 ·exact (gC_r hp ha.1 (by omega) (by decide)).app ((gC_r hp hb.1 (by omega) (by decide)).app (aluC_r hrd (gR_16 hp ha.1 (by omega) (by decide)) (gR_16 hp hb.1 (by omega) (by decide))))
 all_goals exact (gC_r hp ha.1 (by omega) (by decide)).app ((gC_r hp hb.1 (by omega) (by decide)).app ((flagC_r (gR_16 hp ha.1 (by omega) (by decide)) (gR_16 hp hb.1 (by omega) (by decide))).app (.one (r_mov hrd (by decide)))))
theorem bodyC_r {nd nr : Int} {c : List II} (hp : PlB rg sl c.length) (hm : ∀ (k : Nat) (x : II), c[k]? = some x → madeB nd nr x (k : Int) = true) (hi : ∀ x ∈ c, 0 ≤ x.2.2.2.2 ∧ x.2.2.2.2 < 4294967296) (hnd : 0 ≤ nd ∧ nd ≤ 16) (hnr : 0 ≤ nr ∧ nr ≤ 16) : ∀ k, AllR (bodyC rg sl nd nr c k)
 | 0 => AllR.nil
 | k + 1 => by
  have h := bodyC_r hp hm hi hnd hnr k;show AllR (match c[k]? with | some x => _ | none => _);split
  ·rename_i x hx;exact h.app (oneC_r hp (List.getElem?_eq_some_iff.1 hx).1 (hm k x hx) (hi x (List.mem_of_getElem? hx)) hnd hnr)
  ·exact h
theorem outC_r {bs frm : Int} (hp : PlB rg sl n) (hb : rg16 bs) : ∀ (l : List Int) (k : Int), (∀ x ∈ l, 0 ≤ x ∧ x < (n : Int)) → 0 ≤ frm + k → frm + k + (l.length : Int) < 4096 → AllR (outC rg sl bs frm l k)
 | [], _, _, _, _ => AllR.nil
 | x :: l, k, h, h0, h1 => by
  obtain ⟨x0, x1⟩ := h x (List.mem_cons_self ..);simp only [List.length_cons] at h1;exact (gC_r hp x0 x1 (by decide)).app (.cons (r_st hb (gR_16 hp x0 x1 (by decide)) (r_small (by omega))) (outC_r hp hb l (k + 1) (fun y hy => h y (List.mem_cons_of_mem _ hy)) (by omega) (by omega)))
theorem stackC_r {bs frm word : Int} (hp : PlB rg sl n) (hb : rg16 bs) (l : List Int) (h : ∀ x ∈ l, 0 ≤ x ∧ x < (n : Int)) (h0 : 0 ≤ frm) (h1 : frm + (l.length : Int) < 4096) (hw : 0 ≤ word ∧ word < 4096) : AllR (stackC rg sl bs frm word l) :=
 (outC_r hp hb l 0 h (by omega) (by omega)).app (.cons (r_li (by decide) (r_small (by omega))) (.cons (r_op (by decide) (by decide) (by decide) hb) (.one (r_st (by decide) (by decide) (r_small hw)))))
end
theorem roomC_r {base word need most E : Int} (hb : rg16 base) (hw : 0 ≤ word ∧ word < 4096) (hn : 0 ≤ need ∧ need < 4096) (hm : 0 ≤ most ∧ most < 4096) (hE : 0 ≤ E ∧ E < 4096) : AllR (roomC base word need most E) :=
 .cons (r_ld hb (by decide) (r_small hw)) (.cons (r_li (by decide) (r_small hn)) (.cons (r_op (by decide) (by decide) hb (by decide)) (.cons (r_bz (.inr rfl) (by decide) (r_small hE)) (.cons (r_li (by decide) (r_small hm)) (.cons (r_op (by decide) (by decide) (by decide) hb) (.cons (r_bz (.inr rfl) (by decide) (r_small hE)) (.one (r_op (by decide) hb hb (by decide)))))))))
theorem emitC_r {c : List II} {od rd rg sl : List Int} {nd nr hd hr fl nx tg br tk ct : Int} (hR : RightP c od rd nd nr hd hr fl tg br ct (c.length : Int)) (hi : ∀ x ∈ c, 0 ≤ x.2.2.2.2 ∧ x.2.2.2.2 < 4294967296) (hp : PlB rg sl c.length) (hnx : u32P nx) (htk : u32P tk) (hct : u32P ct) : AllR (emitC rg sl nd nr hd hr fl nx tg br tk ct c od rd) ∧ (emitC rg sl nd nr hd hr fl nx tg br tk ct c od rd).length ≤ 4000 ∧ 0 < (emitC rg sl nd nr hd hr fl nx tg br tk ct c od rd).length := by
 have q3 := hR.nd_; have q4 := hR.nr_; have q5 := hR.hd_; have q6 := hR.hr_; have hlen := hR.len;have e2 : hrI (exitI 2) := r_exit ⟨by decide, by decide⟩;have l15 : hrI (liI 15 0) := r_li (by decide) ⟨by decide, by decide⟩;unfold emitC
 by_cases g1 : mostO nd hd (od.length : Int) < nd
 ·rw [if_pos g1]; exact ⟨.cons l15 (.one e2), by simp, by simp⟩
 ·rw [if_neg g1];have hmd : 0 ≤ mostO nd hd (od.length : Int) ∧ mostO nd hd (od.length : Int) < 4096 := by unfold mostO at g1 ⊢; omega
  by_cases g2 : mostO nr hr (rd.length : Int) < nr
  ·rw [if_pos g2];exact ⟨.cons l15 ((roomC_r (by decide) (by decide) (by omega) hmd (by decide)).app (.one e2)), by simp [roomC], by simp⟩
  ·rw [if_neg g2];have hmr : 0 ≤ mostO nr hr (rd.length : Int) ∧ mostO nr hr (rd.length : Int) < 4096 := by unfold mostO at g2 ⊢; omega
   have hodl : od.length ≤ 16 := by unfold mostO at g1; omega
   have hrdl : rd.length ≤ 16 := by unfold mostO at g2; omega
   have hmost : ∀ E, (fullC rg sl nd nr hd hr fl nx tg br tk ct c od rd E).length ≤ 3000 := full_most (by omega) (by omega) (by omega);have hm0 := hmost 0;have hod : ∀ x ∈ od, 0 ≤ x ∧ x < (c.length : Int) := fun x hx => by obtain ⟨k, hk⟩ := List.mem_iff_getElem?.1 hx; exact valB_iff2.1 (hR.od_ k x hk)
   have hrd : ∀ x ∈ rd, 0 ≤ x ∧ x < (c.length : Int) := fun x hx => by obtain ⟨k, hk⟩ := List.mem_iff_getElem?.1 hx; exact valB_iff2.1 (hR.rd_ k x hk)
   have hfl9 : fl = -1 ∨ (0 ≤ fl ∧ fl < (c.length : Int)) := hR.fl_.imp id fun h => valB_iff2.1 h
   have htg9 : tg = -1 ∨ (0 ≤ tg ∧ tg < (c.length : Int)) := hR.tg_.imp id fun h => valB_iff2.1 h
   refine ⟨AllR.app ?_ (.one e2), by have := hmost ((fullC rg sl nd nr hd hr fl nx tg br tk ct c od rd 0).length : Int); simp; omega, by simp⟩
   have hmid : (midC rg sl nd nr fl nx c od rd).length ≤ 3000 := by
    have h : (midC rg sl nd nr fl nx c od rd).length ≤ (fullC rg sl nd nr hd hr fl nx tg br tk ct c od rd 0).length := by unfold fullC; simp; omega
    omega
   unfold fullC;refine AllR.app (.cons l15 ((roomC_r (by decide) (by decide) zo hmd (by constructor <;> (first | exact Int.natCast_nonneg _ | (have := hmost 0; unfold fullC at this; omega)))).app (roomC_r (by decide) (by decide) zo hmr (by constructor <;> (first | exact Int.natCast_nonneg _ | (have := hmost 0; unfold fullC at this; omega)))))) (AllR.app ?_ (AllR.app ?_ ?_))
   ·unfold midC;refine (bodyC_r hp hR.code hi q3 q4 c.length).app ((stackC_r hp (by decide) od hod (by decide) zo (by decide)).app ((stackC_r hp (by decide) rd hrd (by decide) zo (by decide)).app (AllR.app ?_ (.one (r_li (by decide) hnx)))));unfold flC;rcases hfl9 with rfl | ⟨h0, h1⟩
    ·rw [if_neg (by decide)]; exact AllR.nil
    ·rw [if_pos h0]; exact .cons (r_li (by decide) ⟨by decide, by decide⟩) ((gC_r hp h0 h1 (by decide)).app (.cons (r_op (by decide) (by decide) (by decide) (gR_16 hp h0 h1 (by decide))) (.one (r_st (by decide) (by decide) ⟨by decide, by decide⟩))))
   ·unfold brC;split
    ·exact AllR.nil
    ·refine .cons (r_ld (by decide) (by decide) ⟨by decide, by decide⟩) (.cons (r_li (by decide) (r_small (by unfold bitO; (repeat' split) <;> omega))) (.cons (r_op (by decide) (by decide) (by decide) (by decide)) (.cons (r_bz (by split; exact .inr rfl; exact .inl rfl) (by decide) (r_small zo)) (.one (r_li (by decide) htk)))))
   ·unfold tailC;refine AllR.app ?_ (AllR.app (.cons (r_st (by decide) (by decide) ⟨by decide, by decide⟩) (.cons (r_li (by decide) hct) (.one (r_st (by decide) (by decide) ⟨by decide, by decide⟩)))) (.one (r_exit ⟨by decide, by decide⟩)));unfold tgC;rcases htg9 with rfl | ⟨h0, h1⟩
    ·rw [if_neg (by decide)]; exact AllR.nil
    ·rw [if_pos h0]; exact (gC_r hp h0 h1 (by decide)).app (.one (r_mov (by decide) (gR_16 hp h0 h1 (by decide))))
theorem plb_of {l : List IV} {n : Nat} {rg sl : List Int} {slots : Int} (hp : PlanN l 7 n rg sl slots) (hn : n = l.length) (h64 : n ≤ 64) : PlB rg sl n := fun N hN => by
 have h1 : N < rg.length := by rw [hp.lr]; omega
 have h2 : N < sl.length := by rw [hp.ls]; omega
 have g1 : rg.getD N 0 = rg[N] := by rw [List.getD_eq_getElem?_getD, List.getElem?_eq_getElem h1]; rfl
 have g2 : sl.getD N 0 = sl[N] := by rw [List.getD_eq_getElem?_getD, List.getElem?_eq_getElem h2]; rfl
 have h0 := hp.s0;rw [g1, g2];rcases hp.place N _ _ hN (List.getElem?_eq_getElem h1) (List.getElem?_eq_getElem h2) with ⟨a, b, _⟩ | ⟨a, b, c⟩
 ·exact .inl ⟨a, by omega⟩
 ·exact .inr ⟨a, b, by omega⟩
end Ls
end Go.Proofs.Ytihacfclecanjaa
