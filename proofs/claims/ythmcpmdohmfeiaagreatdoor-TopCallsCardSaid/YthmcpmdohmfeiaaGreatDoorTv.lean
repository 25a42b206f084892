/- A guest till it is halted (innkeepertop.until): from what a run of it comes to, what all come to. -/
import Derived.Test.YthmcpmdohmfeiaaGreatDoorTr
import Derived.Test.YthmcpmdohmfeiaaGreatDoorEa7
namespace Go.Proofs.YthmcpmdohmfeiaaGreatDoor
open Go Go.Ev
set_option linter.unusedVariables false
set_option linter.unusedSimpArgs false
set_option maxRecDepth 100000
namespace Tp
/-! The code, in pieces -/
noncomputable def cA : Code → Code
  | .seq a _ => a
  | c => c
noncomputable def cB : Code → Code
  | .seq _ b => b
  | c => c
noncomputable def cI : Code → Code
  | .block _ c => c
  | .loop c => c
  | c => c
noncomputable def cT : Code → Code
  | .cond _ a _ => a
  | c => c
noncomputable def cO : Code → Array Oper
  | .region _ o _ => o
  | _ => #[]
noncomputable def u0 : Code := Tryz.f34.body.getD .skip
noncomputable def uL : Code := cI (cI (cB (cA (cB u0))))
noncomputable def uO0 := cO (cA u0)
noncomputable def uO1 := cO (cA (cA (cB u0)))
noncomputable def uO2 := cO (cA (cA uL))
noncomputable def uO4 := cO (cA (cI (cA (cB uL))))
noncomputable def uO5 := cO (cA (cT (cB (cI (cA (cB uL))))))
noncomputable def uO3 := cO (cB (cB uL))
noncomputable def uO6 := cO (cA (cB (cB u0)))
theorem u_body : Tryz.f34.body = some u0 := by kernel_rfl
theorem u_eq : u0 = .seq (.region 0 uO0 false) (.seq (.seq (.region 1 uO1 false) (.block 0 (.loop uL))) (.seq (.region 6 uO6 false) .ret)) := by kernel_rfl
theorem uL_eq : uL = .seq (.seq (.region 2 uO2 false) (.cond (.tmp 14) .skip (.exit 0))) (.seq (.block 1 (.seq (.region 4 uO4 false) (.cond (.tmp 19) (.seq (.region 5 uO5 false) .ret) .skip))) (.region 3 uO3 false)) := by kernel_rfl
noncomputable def opA (o : Array Oper) (i : Nat) : Oper := o.toList.getD i default
/-- A state that is told: is it halted? -/
def hOf (b : Bool) (v : Value) : Prop := ∃ cs : Array Value, v = .agg cs ∧ cs[15]? = some (.bool b)
noncomputable def gP : Value := .pointer (some ⟨0, 0, none⟩)
/-- The slots that are looked at again. -/
noncomputable def tmU (n k : Int) : Tr Value := (((Tr.lf.put 0 (some gP)).put 1 (some (.int .i64 n))).put 4 (some (.bool false))).put 5 (some (.int .i64 k))
theorem gt (t : Tr Value) (n : Nat) (v : Value) (j : Nat) : (t.put n (some v)).get j = if j = n then some v else t.get j := Tr.get_put _ _ _ _
theorem op_val {n : Nat} {ops : Array Oper} {K : St → Prop} {o : Oper} {l : List Oper} {tm : Tr Value} {H : Heap} (v : Value) (hw : awanted ops tm o = true) (ha : aop Tryz.prog T5 tm o H = some (.val v, H)) (d : Nat) (hd : dput n tm o.dst v = some (tm.put d (some v))) (h : AOps Tryz.prog T5 n ops l K ⟨tm.put d (some v), H⟩) : AOps Tryz.prog T5 n ops (o :: l) K ⟨tm, H⟩ :=
  aops_res hw ha (ares_val hd h)
theorem op_off {n : Nat} {ops : Array Oper} {K : St → Prop} {o : Oper} {l : List Oper} {tm : Tr Value} {H : Heap} (hw : awanted ops tm o = false) (d : Nat) (hd : dput n tm o.dst undef = some (tm.put d (some undef))) (h : AOps Tryz.prog T5 n ops l K ⟨tm.put d (some undef), H⟩) : AOps Tryz.prog T5 n ops (o :: l) K ⟨tm, H⟩ :=
  aops_off hw hd h
theorem op_call {n : Nat} {ops : Array Oper} {K : St → Prop} {o : Oper} {l : List Oper} {tm : Tr Value} {H : Heap} {R : Value → Heap → Prop} (f : FuncId) (args : Array Value) (hw : awanted ops tm o = true) (ha : aop Tryz.prog T5 tm o H = some (.enter f args, H)) (hc : ACall Tryz.prog T5 f args H R) (d : Nat) (hd : ∀ v, dput n tm o.dst v = some (tm.put d (some v))) (h : ∀ v H', R v H' → AOps Tryz.prog T5 n ops l K ⟨tm.put d (some v), H'⟩) : AOps Tryz.prog T5 n ops (o :: l) K ⟨tm, H⟩ :=
  aops_res hw ha (ares_call (hc.mono fun v H' hR => aput_k (hd v) (h v H' hR)))
/-- What is kept of the slots. -/
def Kp (n k : Int) (tm : Tr Value) : Prop := tm.get 0 = some gP ∧ tm.get 1 = some (.int .i64 n) ∧ tm.get 4 = some (.bool false) ∧ tm.get 5 = some (.int .i64 k)
theorem o2_list : uO2.toList = [opA uO2 0, opA uO2 1, opA uO2 2, opA uO2 3, opA uO2 4, opA uO2 5, opA uO2 6, opA uO2 7, opA uO2 8] := by kernel_rfl
theorem o4_list : uO4.toList = [opA uO4 0, opA uO4 1, opA uO4 2] := by kernel_rfl
theorem o3_list : uO3.toList = [opA uO3 0, opA uO3 1, opA uO3 2] := by kernel_rfl
theorem o6_list : uO6.toList = [opA uO6 0, opA uO6 1, opA uO6 2, opA uO6 3] := by kernel_rfl
section
variable {n k : Int} {H : Heap} {Z : Heap → Prop}
theorem reg2_go {b : Bool} (hk : k < n) (hst : ACall Tryz.prog T5 21 #[gP] H fun v H' => hOf b v ∧ Z H') :
    AOps Tryz.prog T5 23 uO2 uO2.toList (fun s => Kp n k s.tm ∧ s.tm.get 14 = some (.bool !b) ∧ Z s.H) ⟨tmU n k, H⟩ := by
  have hd : decide (k < n) = true := decide_eq_true hk
  rw [o2_list]
  refine op_val (.int .i64 k) (by kernel_rfl) (by kernel_rfl) 6 (by kernel_rfl) ?_
  refine op_val (.int .i64 n) (by kernel_rfl) (by kernel_rfl) 7 (by kernel_rfl) ?_
  refine op_val (.bool true) (by kernel_rfl) ?_ 8 (by kernel_rfl) ?_
  · rw [← hd]; kernel_rfl
  refine op_val (.bool true) (by kernel_rfl) (by kernel_rfl) 9 (by kernel_rfl) ?_
  refine op_val gP (by kernel_rfl) (by kernel_rfl) 10 (by kernel_rfl) ?_
  refine op_call 21 #[gP] (by kernel_rfl) (by kernel_rfl) hst 11 (fun v => by kernel_rfl) fun v H' hR => ?_
  obtain ⟨⟨cs, rfl, hcs⟩, hZ⟩ := hR
  refine op_val (.bool b) (by kernel_rfl) ?_ 12 (by kernel_rfl) ?_
  · refine Eq.trans (b := val cs[15]? H') (by kernel_rfl) ?_
    rw [hcs]; rfl
  refine op_val (.bool !b) (by kernel_rfl) (by kernel_rfl) 13 (by kernel_rfl) ?_
  refine op_val (.bool !b) (by kernel_rfl) (by kernel_rfl) 14 (by kernel_rfl) ?_
  exact aops_nil ⟨⟨by kernel_rfl, by kernel_rfl, by kernel_rfl, by kernel_rfl⟩, by kernel_rfl, hZ⟩
theorem reg2_end (hk : ¬ k < n) (hZ : Z H) :
    AOps Tryz.prog T5 23 uO2 uO2.toList (fun s => Kp n k s.tm ∧ s.tm.get 14 = some (.bool false) ∧ Z s.H) ⟨tmU n k, H⟩ := by
  have hd : decide (k < n) = false := decide_eq_false hk
  rw [o2_list]
  refine op_val (.int .i64 k) (by kernel_rfl) (by kernel_rfl) 6 (by kernel_rfl) ?_
  refine op_val (.int .i64 n) (by kernel_rfl) (by kernel_rfl) 7 (by kernel_rfl) ?_
  refine op_val (.bool false) (by kernel_rfl) ?_ 8 (by kernel_rfl) ?_
  · rw [← hd]; kernel_rfl
  refine op_val (.bool false) (by kernel_rfl) (by kernel_rfl) 9 (by kernel_rfl) ?_
  refine op_off (by kernel_rfl) 10 (by kernel_rfl) ?_
  refine op_off (by kernel_rfl) 11 (by kernel_rfl) ?_
  refine op_off (by kernel_rfl) 12 (by kernel_rfl) ?_
  refine op_off (by kernel_rfl) 13 (by kernel_rfl) ?_
  refine op_val (.bool false) (by kernel_rfl) (by kernel_rfl) 14 (by kernel_rfl) ?_
  exact aops_nil ⟨⟨by kernel_rfl, by kernel_rfl, by kernel_rfl, by kernel_rfl⟩, by kernel_rfl, hZ⟩
theorem reg4_go (hrun : ACall Tryz.prog T5 27 #[gP, .int .i64 8] H fun v H' => (∃ j, v = .int .i64 j ∧ j ≠ 0) ∧ Z H') :
    AOps Tryz.prog T5 23 uO4 uO4.toList (fun s => Kp n k s.tm ∧ s.tm.get 19 = some (.bool false) ∧ Z s.H) ⟨tmU n k, H⟩ := by
  rw [o4_list]
  refine op_val gP (by kernel_rfl) (by kernel_rfl) 17 (by kernel_rfl) ?_
  refine op_call 27 #[gP, .int .i64 8] (by kernel_rfl) (by kernel_rfl) hrun 18 (fun v => by kernel_rfl) fun v H' hR => ?_
  obtain ⟨⟨j, rfl, hj⟩, hZ⟩ := hR
  have hd : (j == 0) = false := beq_eq_false_iff_ne.2 hj
  refine op_val (.bool false) (by kernel_rfl) ?_ 19 (by kernel_rfl) ?_
  · rw [← hd]; kernel_rfl
  exact aops_nil ⟨⟨by kernel_rfl, by kernel_rfl, by kernel_rfl, by kernel_rfl⟩, by kernel_rfl, hZ⟩
theorem reg3_go (h0 : 0 ≤ k) (h1 : k < 9223372036854775807) (hZ : Z H) :
    AOps Tryz.prog T5 23 uO3 uO3.toList (fun s => Kp n (k + 1) s.tm ∧ Z s.H) ⟨tmU n k, H⟩ := by
  have hd : IntKind.i64.wrap (k + 1) = k + 1 := by simp [IntKind.wrap, IntKind.signed, IntKind.bits]; omega
  rw [o3_list]
  refine op_val (.int .i64 k) (by kernel_rfl) (by kernel_rfl) 15 (by kernel_rfl) ?_
  refine op_val (.int .i64 (k + 1)) (by kernel_rfl) ?_ 16 (by kernel_rfl) ?_
  · refine Eq.trans (b := some (.val (.int .i64 (IntKind.i64.wrap (k + 1))), H)) (by kernel_rfl) ?_
    rw [hd]
  refine op_val (.int .i64 (k + 1)) (by kernel_rfl) (by kernel_rfl) 5 (by kernel_rfl) ?_
  exact aops_nil ⟨⟨by kernel_rfl, by kernel_rfl, by kernel_rfl, by kernel_rfl⟩, hZ⟩
theorem reg6_go {b : Bool} (hst : ACall Tryz.prog T5 21 #[gP] H fun v H' => hOf b v ∧ Z H') :
    AOps Tryz.prog T5 23 uO6 uO6.toList (fun s => s.tm.get 4 = some (.bool b) ∧ Z s.H) ⟨tmU n k, H⟩ := by
  rw [o6_list]
  refine op_val gP (by kernel_rfl) (by kernel_rfl) 20 (by kernel_rfl) ?_
  refine op_call 21 #[gP] (by kernel_rfl) (by kernel_rfl) hst 21 (fun v => by kernel_rfl) fun v H' hR => ?_
  obtain ⟨⟨cs, rfl, hcs⟩, hZ⟩ := hR
  refine op_val (.bool b) (by kernel_rfl) ?_ 22 (by kernel_rfl) ?_
  · refine Eq.trans (b := val cs[15]? H') (by kernel_rfl) ?_
    rw [hcs]; rfl
  refine op_val (.bool b) (by kernel_rfl) (by kernel_rfl) 4 (by kernel_rfl) ?_
  exact aops_nil ⟨by kernel_rfl, hZ⟩
end
/-- A part of memory is of a kind. -/
def Into (Y : Heap → Prop) (H : Heap) : Prop := ∃ S θ, Y S ∧ Emb θ S H ∧ θ 0 = some 0
/-- Guests' memories, by how many runs are left: what a look at its state, and a run of eight, come to. -/
structure Fam (X : Nat → Heap → Prop) : Prop where
  wf : ∀ r S, X r S → HWf S ∧ ∀ b, (S.get b).isSome → S.wr b
  st : ∀ r S, X r S → ACall Tryz.prog T5 21 #[gP] S fun v H' => hOf (r == 0) v ∧ Into (X r) H'
  run : ∀ r S, X (r + 1) S → ACall Tryz.prog T5 27 #[gP, .int .i64 8] S fun v H' => (∃ j, v = .int .i64 j ∧ j ≠ 0) ∧ Into (X r) H'
/-- What is left alone. -/
structure Fx (O : Nat → Prop) (w0 w : World) : Prop where
  os : w.os = w0.os
  tape : w.tape = w0.tape
  output : w.output = w0.output
  size : w0.heap.size ≤ w.heap.size
  keep : ∀ c, c < w0.heap.size → ¬ O c → w.heap[c]? = w0.heap[c]?
def Inv [Bs] (Y : Heap → Prop) (O : Nat → Prop) (w0 : World) (L0 : Ev.Loc) (n k : Int) (a : Act) (w : World) : Prop :=
  ∃ S m, Y S ∧ Rep Tryz.prog m S w ∧ m 0 = some L0 ∧ a.tmps.size = 23 ∧ a.defers = [] ∧ TmP m (tmU n k) a.tmps ∧ Fx O w0 w ∧ ∀ b L, m b = some L → (S.get b).isSome → O L.c ∨ w0.heap.size ≤ L.c
theorem tmU_at {n k : Int} {t : Nat} {v : Value} (h : (tmU n k).get t = some v) : (t = 0 ∧ v = gP) ∨ (t = 1 ∧ v = .int .i64 n) ∨ (t = 4 ∧ v = .bool false) ∨ (t = 5 ∧ v = .int .i64 k) := by
  unfold tmU at h
  rw [gt] at h
  split at h
  · cases h; exact .inr (.inr (.inr ⟨‹_›, rfl⟩))
  · rw [gt] at h
    split at h
    · cases h; exact .inr (.inr (.inl ⟨‹_›, rfl⟩))
    · rw [gt] at h
      split at h
      · cases h; exact .inr (.inl ⟨‹_›, rfl⟩)
      · rw [gt] at h
        split at h
        · cases h; exact .inl ⟨‹_›, rfl⟩
        · cases h
theorem Inv.step [Bs] {Y : Heap → Prop} {O : Nat → Prop} {w0 : World} {L0 : Ev.Loc} {n k : Int} {S : Heap} {m : Map} {w : World} (h0 : m 0 = some L0) (hfx : Fx O w0 w) (hown : ∀ b L, m b = some L → (S.get b).isSome → O L.c ∨ w0.heap.size ≤ L.c)
    {s' : St} {a' : Act} {w' : World} {m' : Map} (hk : Kp n k s'.tm) (hi : Into Y s'.H) (ht : TmP m' s'.tm a'.tmps) (hs : a'.tmps.size = 23) (hd : a'.defers = []) (hr : Rep Tryz.prog m' s'.H w') (hf : Fr m S w m' s'.H w') : Inv Y O w0 L0 n k a' w' := by
  obtain ⟨S', θ, hY, he, hθ⟩ := hi
  obtain ⟨k0, k1, k4, k5⟩ := hk
  refine ⟨S', via θ m', hY, hr.sub he, by rw [via_at hθ]; exact hf.le _ _ h0, hs, hd, fun t v hv => ?_, ⟨hf.os.trans hfx.os, hf.tape.trans hfx.tape, hf.output.trans hfx.output, Nat.le_trans hfx.size hf.size, fun c hc ho => (hf.keep c (Nat.lt_of_lt_of_le hc hfx.size) fun q => ?_).trans (hfx.keep c hc ho)⟩, fun b L hb hl => ?_⟩
  · rcases tmU_at hv with ⟨rfl, rfl⟩ | ⟨rfl, rfl⟩ | ⟨rfl, rfl⟩ | ⟨rfl, rfl⟩
    · exact (Rn.ptr (r := fun a c => θ a = some c) hθ).vr (fun a c hac => via_at hac) (ht _ _ k0)
    · rw [(ht _ _ k1).plain_eq rfl]; exact .same rfl
    · rw [(ht _ _ k4).plain_eq rfl]; exact .same rfl
    · rw [(ht _ _ k5).plain_eq rfl]; exact .same rfl
  · obtain ⟨b, L, h1, h2, rfl⟩ := q
    rcases hown b L h1 (Heap.wr_live h2) with h3 | h3
    · exact ho h3
    · omega
  · obtain ⟨b', h1, h2⟩ := via_some hb
    rcases hf.live b' L h2 (he.live h1 hl) with ⟨h3, h4⟩ | ⟨_, ⟨b2, L2, h3, h4, h5⟩ | h3⟩
    · exact hown b' L h3 h4
    · rw [← h5]; exact hown b2 L2 h3 (Heap.wr_live h4)
    · exact .inr (Nat.le_trans hfx.size h3)
theorem Inv.same [Bs] {Y : Heap → Prop} {O : Nat → Prop} {w0 : World} {L0 : Ev.Loc} {n k : Int} {S : Heap} {m : Map} {w : World} (h0 : m 0 = some L0) (hfx : Fx O w0 w) (hown : ∀ b L, m b = some L → (S.get b).isSome → O L.c ∨ w0.heap.size ≤ L.c)
    {s' : St} {a' : Act} {w' : World} {m' : Map} (hk : Kp n k s'.tm) (hi : Y s'.H) (ht : TmP m' s'.tm a'.tmps) (hs : a'.tmps.size = 23) (hd : a'.defers = []) (hr : Rep Tryz.prog m' s'.H w') (hf : Fr m S w m' s'.H w') : Inv Y O w0 L0 n k a' w' := by
  obtain ⟨k0, k1, k4, k5⟩ := hk
  refine ⟨s'.H, m', hi, hr, hf.le _ _ h0, hs, hd, fun t v hv => ?_, ⟨hf.os.trans hfx.os, hf.tape.trans hfx.tape, hf.output.trans hfx.output, Nat.le_trans hfx.size hf.size, fun c hc ho => (hf.keep c (Nat.lt_of_lt_of_le hc hfx.size) fun q => ?_).trans (hfx.keep c hc ho)⟩, fun b L hb hl => ?_⟩
  · rcases tmU_at hv with ⟨rfl, rfl⟩ | ⟨rfl, rfl⟩ | ⟨rfl, rfl⟩ | ⟨rfl, rfl⟩
    · exact ht _ _ k0
    · exact ht _ _ k1
    · exact ht _ _ k4
    · exact ht _ _ k5
  · obtain ⟨b, L, h1, h2, rfl⟩ := q
    rcases hown b L h1 (Heap.wr_live h2) with h3 | h3
    · exact ho h3
    · omega
  · rcases hf.live b L hb hl with ⟨h3, h4⟩ | ⟨_, ⟨b2, L2, h3, h4, h5⟩ | h3⟩
    · exact hown b L h3 h4
    · rw [← h5]; exact hown b2 L2 h3 (Heap.wr_live h4)
    · exact .inr (Nat.le_trans hfx.size h3)
theorem uOk (id : Nat) : codeOk T5 (.region id uO2 false) = true ∧ codeOk T5 (.region id uO3 false) = true ∧ codeOk T5 (.region id uO4 false) = true ∧ codeOk T5 (.region id uO6 false) = true ∧ codeOk T5 (.region id uO0 false) = true ∧ codeOk T5 (.region id uO1 false) = true := by
  refine ⟨?_, ?_, ?_, ?_, ?_, ?_⟩ <;> kernel_rfl
theorem tmU_known (n k : Int) : ∀ d ∈ [0, 1, 4, 5], ((tmU n k).get d).isSome := by
  intro d hd
  simp only [List.mem_cons, List.not_mem_nil, or_false] at hd
  rcases hd with rfl | rfl | rfl | rfl <;> kernel_rfl
theorem ev_at {m : Map} {tm : Tr Value} {a : Act} {t : Nat} {b : Bool} (ht : TmP m tm a.tmps) (h : tm.get t = some (.bool b)) : a.eval (.tmp t) = .bool b := (ht t _ h).plain_eq rfl
section
variable [Bs] [Tz1] {X : Nat → Heap → Prop} {O : Nat → Prop} {w0 : World} {L0 : Ev.Loc} {n : Int}
theorem rounds_go (hF : Fam X) (hn : n < 9223372036854775807) {Q : Exit → Act → World → Prop} (hQ : ∀ k a w, Inv (X 0) O w0 L0 n k a w → Q (.exit 0) a w) :
    ∀ (r : Nat) (k : Int) (a : Act) (w : World), 0 ≤ k → k + r ≤ n → Inv (X r) O w0 L0 n k a w → Code.rounds Tryz.prog uL Q (r + 1) a w := by
  intro r
  induction r with
  | zero =>
    intro k a w hk0 hkn hI
    obtain ⟨S, m, hX, hR, h0, hs, hd, ht, hfx, hown⟩ := hI
    have hwf := (hF.wf 0 S hX).1
    rw [rounds_succ, uL_eq]
    refine wp_seq (wp_seq ?_)
    by_cases hk : k < n
    · refine region_part progOk5 (L := [0, 1, 4, 5]) (reg2_go (b := true) hk (hF.st 0 S hX)) (uOk 2).1 (by kernel_rfl) (tmU_known n k) hwf ht hs hR fun s' a' w' m' hR' t' z' d' r' f' => ?_
      obtain ⟨hkp, h14, hi⟩ := hR'
      refine wp_cond (t := false) (ev_at t' h14) (wp_exit ?_)
      exact hQ k a' w' (Inv.step h0 hfx hown hkp hi t' z' (d'.trans hd) r' f')
    · refine region_part progOk5 (L := [0, 1, 4, 5]) (reg2_end (Z := X 0) hk hX) (uOk 2).1 (by kernel_rfl) (tmU_known n k) hwf ht hs hR fun s' a' w' m' hR' t' z' d' r' f' => ?_
      obtain ⟨hkp, h14, hi⟩ := hR'
      refine wp_cond (t := false) (ev_at t' h14) (wp_exit ?_)
      exact hQ k a' w' (Inv.same h0 hfx hown hkp hi t' z' (d'.trans hd) r' f')
  | succ r ih =>
    intro k a w hk0 hkn hI
    obtain ⟨S, m, hX, hR, h0, hs, hd, ht, hfx, hown⟩ := hI
    have hwf := (hF.wf _ S hX).1
    have hk : k < n := by omega
    rw [rounds_succ, uL_eq]
    refine wp_seq (wp_seq ?_)
    refine region_part progOk5 (L := [0, 1, 4, 5]) (reg2_go (b := false) hk (hF.st (r + 1) S hX)) (uOk 2).1 (by kernel_rfl) (tmU_known n k) hwf ht hs hR fun s' a' w' m' hR' t' z' d' r' f' => ?_
    obtain ⟨hkp, h14, hi⟩ := hR'
    refine wp_cond (t := true) (ev_at t' h14) (wp_skip ?_)
    have hI2 := Inv.step h0 hfx hown hkp hi t' z' (d'.trans hd) r' f'
    clear hkp h14 hi t' z' d' r' f' hX hR h0 hs hd ht hfx hown hwf S m
    obtain ⟨S, m, hX, hR, h0, hs, hd, ht, hfx, hown⟩ := hI2
    have hwf := (hF.wf _ S hX).1
    refine wp_seq (wp_block (wp_seq ?_))
    refine region_part progOk5 (L := [0, 1, 4, 5]) (reg4_go (hF.run r S hX)) (uOk 4).2.2.1 (by kernel_rfl) (tmU_known n k) hwf ht hs hR fun s' a' w' m' hR' t' z' d' r' f' => ?_
    obtain ⟨hkp, h19, hi⟩ := hR'
    refine wp_cond (t := false) (ev_at t' h19) (wp_skip ?_)
    have hI2 := Inv.step h0 hfx hown hkp hi t' z' (d'.trans hd) r' f'
    clear hkp h19 hi t' z' d' r' f' hX hR h0 hs hd ht hfx hown hwf S m
    obtain ⟨S, m, hX, hR, h0, hs, hd, ht, hfx, hown⟩ := hI2
    have hwf := (hF.wf _ S hX).1
    refine region_part progOk5 (L := [0, 1, 4, 5]) (reg3_go (Z := X r) hk0 (by omega) hX) (uOk 3).2.1 (by kernel_rfl) (tmU_known n k) hwf ht hs hR fun s' a' w' m' hR' t' z' d' r' f' => ?_
    obtain ⟨hkp, hi⟩ := hR'
    exact ih (k + 1) a' w' (by omega) (by omega) (Inv.same h0 hfx hown hkp hi t' z' (d'.trans hd) r' f')
theorem ends_go (hF : Fam X) (hn : n < 9223372036854775807) {Q : Exit → Act → World → Prop} (hQ : ∀ S m (a : Act) w, X 0 S → Rep Tryz.prog m S w → m 0 = some L0 → a.defers = [] → a.tmps.getD 4 undef = .bool true → Fx O w0 w → (∀ b L, m b = some L → (S.get b).isSome → O L.c ∨ w0.heap.size ≤ L.c) → Q .ret a w)
    {k : Int} {a : Act} {w : World} (hI : Inv (X 0) O w0 L0 n k a w) : (Code.seq (.region 6 uO6 false) .ret).wp Tryz.prog Q a w := by
  obtain ⟨S, m, hX, hR, h0, hs, hd, ht, hfx, hown⟩ := hI
  have hwf := (hF.wf _ S hX).1
  refine wp_seq ?_
  refine region_part progOk5 (L := [0, 1, 4, 5]) (reg6_go (b := true) (hF.st 0 S hX)) (uOk 6).2.2.2.1 (by kernel_rfl) (tmU_known n k) hwf ht hs hR fun s' a' w' m' hR' t' z' d' r' f' => ?_
  obtain ⟨h4, S', θ, hX', he, hθ⟩ := hR'
  refine wp_ret (hQ S' (via θ m') a' w' hX' (r'.sub he) (by rw [via_at hθ]; exact f'.le _ _ h0) (d'.trans hd) ((t' 4 _ h4).plain_eq rfl) ⟨f'.os.trans hfx.os, f'.tape.trans hfx.tape, f'.output.trans hfx.output, Nat.le_trans hfx.size f'.size, fun c hc ho => (f'.keep c (Nat.lt_of_lt_of_le hc hfx.size) fun q => ?_).trans (hfx.keep c hc ho)⟩ fun b L hb hl => ?_)
  · obtain ⟨b, L, h1, h2, rfl⟩ := q
    rcases hown b L h1 (Heap.wr_live h2) with h3 | h3
    · exact ho h3
    · omega
  · obtain ⟨b', h1, h2⟩ := via_some hb
    rcases f'.live b' L h2 (he.live h1 hl) with ⟨h3, h4⟩ | ⟨_, ⟨b2, L2, h3, h4, h5⟩ | h3⟩
    · exact hown b' L h3 h4
    · rw [← h5]; exact hown b2 L2 h3 (Heap.wr_live h4)
    · exact .inr (Nat.le_trans hfx.size h3)
end
theorem o0_list : uO0.toList = [opA uO0 0] := by kernel_rfl
theorem o1_list : uO1.toList = [opA uO1 0] := by kernel_rfl
/-- The slots at the beginning. -/
noncomputable def tm01 (n : Int) : Tr Value := (Tr.lf.put 0 (some gP)).put 1 (some (.int .i64 n))
theorem reg0_go {n : Int} {H : Heap} : AOps Tryz.prog T5 23 uO0 uO0.toList (fun s => s = ⟨(tm01 n).put 4 (some (.bool false)), H⟩) ⟨tm01 n, H⟩ := by
  rw [o0_list]
  refine op_val (.bool false) (by kernel_rfl) (by kernel_rfl) 4 (by kernel_rfl) ?_
  exact aops_nil rfl
theorem reg1_go {n : Int} {H : Heap} : AOps Tryz.prog T5 23 uO1 uO1.toList (fun s => s = ⟨tmU n 0, H⟩) ⟨(tm01 n).put 4 (some (.bool false)), H⟩ := by
  rw [o1_list]
  refine op_val (.int .i64 0) (by kernel_rfl) (by kernel_rfl) 5 (by kernel_rfl) ?_
  exact aops_nil rfl
theorem tm01_at {n : Int} {t : Nat} {v : Value} (h : (tm01 n).get t = some v) : (t = 0 ∧ v = gP) ∨ (t = 1 ∧ v = .int .i64 n) := by
  unfold tm01 at h
  rw [gt] at h
  split at h
  · cases h; exact .inr ⟨‹_›, rfl⟩
  · rw [gt] at h
    split at h
    · cases h; exact .inl ⟨‹_›, rfl⟩
    · cases h
theorem known01 (n : Int) : ∀ d ∈ [0, 1], ((tm01 n).get d).isSome := by
  intro d hd
  simp only [List.mem_cons, List.not_mem_nil, or_false] at hd
  rcases hd with rfl | rfl <;> kernel_rfl
theorem known014 (n : Int) : ∀ d ∈ [0, 1, 4], (((tm01 n).put 4 (some (.bool false))).get d).isSome := by
  intro d hd
  simp only [List.mem_cons, List.not_mem_nil, or_false] at hd
  rcases hd with rfl | rfl | rfl <;> kernel_rfl
theorem res34 (a : Act) (w : World) (h : a.tmps.getD 4 undef = .bool true) : (results Tryz.f34 a.tmps).run Tryz.prog w = .ok (.bool true) w := by
  refine Eq.trans (b := .ok (a.tmps.getD 4 undef) w) (by kernel_rfl) ?_
  rw [h]
/-- What stands behind the call. -/
def UPost [Bs] (m : Map) (S : Heap) (w : World) (Y : Heap → Prop) (e : Ending) (w' : World) : Prop :=
  e = .returned (.bool true) ∧ ∃ m1 S1, Y S1 ∧ Rep Tryz.prog m1 S1 w' ∧ m1 0 = m 0 ∧ FrS m S w m1 S1 w'
theorem until_wp [Bs] [Tz1] {X : Nat → Heap → Prop} (hF : Fam X) {n : Int} (hn : n < 9223372036854775807) {r : Nat} {S : Heap} (hX : X r S) (hr : (r : Int) ≤ n) {m : Map} {w : World} {a : Act} (hR : Rep Tryz.prog m S w) {L0 : Ev.Loc} (hL0 : m 0 = some L0)
    (hs : a.tmps.size = 23) (hd : a.defers = []) (ht : TmP m (tm01 n) a.tmps) : u0.wp Tryz.prog (bodyPost Tryz.prog Tryz.f34 (UPost m S w (X 0))) a w := by
  have hwf := hF.wf r S hX
  rw [u_eq]
  refine wp_seq ?_
  refine region_part progOk5 (s := ⟨tm01 n, S⟩) (n := 23) (L := [0, 1]) reg0_go (uOk 0).2.2.2.2.1 (by kernel_rfl) (known01 n) hwf.1 ht hs hR fun s' a' w' m' hR' t' z' d' r' f' => ?_
  subst hR'
  refine wp_seq (wp_seq ?_)
  refine region_part progOk5 (n := 23) (L := [0, 1, 4]) reg1_go (uOk 1).2.2.2.2.2 (by kernel_rfl) (known014 n) hwf.1 t' z' r' fun s2 a2 w2 m2 hR2 t2 z2 d2 r2 f2 => ?_
  subst hR2
  have hf := f'.trans hR f2
  have hI : Inv (X r) (owned m S) w L0 n 0 a2 w2 := by
    refine ⟨S, m2, hX, r2, hf.le _ _ hL0, z2, (d2.trans d').trans hd, t2, ⟨hf.os, hf.tape, hf.output, hf.size, hf.keep⟩, fun b L hb hl => ?_⟩
    rcases hf.live b L hb hl with ⟨h3, h4⟩ | ⟨_, h3⟩
    · exact .inl ⟨b, L, h3, hwf.2 b h4, rfl⟩
    · exact h3
  refine wp_block (wp_loop_rounds (r + 1) (rounds_go hF hn (fun k a w hI => ?_) r 0 a2 w2 (Int.le_refl 0) (by omega) hI))
  show Exit.inBlock 0 _ (.exit 0) a w
  simp only [Exit.inBlock, if_true]
  refine ends_go hF hn (fun S1 m1 a3 w3 hX1 hR1 h01 hd1 h4 hfx hown => ?_) hI
  exact ⟨hd1, .bool true, res34 a3 w3 h4, rfl, m1, S1, hX1, hR1, h01.trans hL0.symm, hfx.os, hfx.tape, hfx.output, hfx.size, hfx.keep, hown⟩
theorem app0 (x y : Value) (k : Nat) : (#[x, y] ++ Array.replicate k undef).getD 0 undef = x := by
  rw [Array.getD_eq_getD_getElem?, Array.getElem?_append_left (by simp)]; rfl
theorem app1 (x y : Value) (k : Nat) : (#[x, y] ++ Array.replicate k undef).getD 1 undef = y := by
  rw [Array.getD_eq_getD_getElem?, Array.getElem?_append_left (by simp)]; rfl
/-- **What a guest comes to till it is halted.** -/
theorem until_sem [Bs] [Tz1] {X : Nat → Heap → Prop} (hF : Fam X) {n : Int} (hn : n < 9223372036854775807) {r : Nat} {S : Heap} (hX : X r S) (hr : (r : Int) ≤ n) : SemTo Tryz.prog 34 [.int .i64 n] S (X 0) := by
  intro m w args' hR ha
  obtain ⟨hlen, hat⟩ := ha
  obtain ⟨y0, e0, v0⟩ := hat 0 _ rfl
  obtain ⟨y1, e1, v1⟩ := hat 1 _ rfl
  have v1 := v1.plain_eq rfl
  subst v1
  obtain ⟨L0, hL0⟩ : ∃ L, m 0 = some L := by
    cases v0 with
    | same h => cases h
    | ptr h _ => exact ⟨_, h⟩
  have hargs : args' = #[y0, .int .i64 n] := by
    apply Array.ext'
    apply List.ext_getElem?
    intro i
    match i with
    | 0 => exact e0
    | 1 => exact e1
    | i + 2 =>
      have h3 : args'.toList.length = 2 := by rw [← hlen]; rfl
      rw [List.getElem?_eq_none (by omega), List.getElem?_eq_none (by simp)]
  subst hargs
  have hw := until_wp hF hn hX hr (a := { tmps := #[y0, .int .i64 n] ++ Array.replicate (Tryz.f34.ntmps - 2) undef, defers := [] }) hR hL0 (by rw [Tryz.ntmps34]; simp) rfl fun t v hv => by
    rcases tm01_at hv with ⟨rfl, rfl⟩ | ⟨rfl, rfl⟩
    · show VR m gP ((#[y0, .int .i64 n] ++ Array.replicate (Tryz.f34.ntmps - 2) undef).getD 0 undef)
      rw [app0]; exact v0
    · show VR m (.int .i64 n) ((#[y0, .int .i64 n] ++ Array.replicate (Tryz.f34.ntmps - 2) undef).getD 1 undef)
      rw [app1]; exact .same rfl
  exact calls_of_wp (R := UPost m S w (X 0)) Tryz.func34 u_body hw
end Tp
end Go.Proofs.YthmcpmdohmfeiaaGreatDoor
