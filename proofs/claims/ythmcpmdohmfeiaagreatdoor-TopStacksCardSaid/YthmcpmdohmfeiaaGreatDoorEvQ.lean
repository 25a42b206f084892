/- A region that draws its order: the loads, and the whole. -/
import Derived.Test.YthmcpmdohmfeiaaGreatDoorEvO
namespace Go.Ev
open Go
set_option linter.unusedVariables false
set_option linter.unusedSimpArgs false
theorem aload_congr {T : Tab} {t : TypeId} {b off : Nat} {H H' : Heap} (h : H.get b = H'.get b) : aload T t (.pointer (some ⟨b, off, none⟩)) H = aload T t (.pointer (some ⟨b, off, none⟩)) H' := by
  unfold aload; simp only [h]
theorem loose_mem {T : Tab} {ops : Array Oper} {j q : Nat} {oj oq : Oper} (hj : ops[j]? = some oj) (hq : ops[q]? = some oq) (hcj : cls T oj.op = .look) (hcq : cls T oq.op = .act)
    (h1 : j < q → ((Region.before ops).getD q 0).testBit j = false) (h2 : ¬ j < q → ((Region.before ops).getD j 0).testBit q = false) : (j, q) ∈ loose T ops := by
  have hjl := (Array.getElem?_eq_some_iff.1 hj).1
  have hql := (Array.getElem?_eq_some_iff.1 hq).1
  unfold loose
  rw [List.mem_flatMap]
  refine ⟨j, by simpa using hjl, List.mem_filterMap.2 ⟨q, by simpa using hql, ?_⟩⟩
  simp only [hj, hq, Option.map_some, hcj, hcq]
  cases hb : j.blt q
  · have hn : ¬ j < q := fun e => by
      have : j.blt q = true := by simpa [Nat.blt_eq] using e
      rw [this] at hb; cases hb
    simp only [cond_false, h2 hn]
  · have hn : j < q := by simpa [Nat.blt_eq] using hb
    simp only [cond_true, h1 hn, cond_false]
theorem look_op {T : Tab} {op : Op} (h : cls T op = .look) : (∃ t x, op = .load t x) ∨ ∃ s d x, op = .convert s d x := by
  cases op <;> simp only [cls] at h <;> first
    | exact .inl ⟨_, _, rfl⟩
    | exact .inr ⟨_, _, _, rfl⟩
    | (cases h; done)
    | (split at h <;> first | (cases h; done) | (split at h <;> first | (cases h; done) | (split at h <;> cases h)))
/-- Which block a value lets one read. -/
def readsB (u : Value) (b : Nat) : Prop := (∃ off, u = .pointer (some ⟨b, off, none⟩)) ∨ ∃ off n c, u = .slice (some ⟨b, off, none⟩) n c
theorem alook_dep {T : Tab} {op : Op} {u v : Value} {H : Heap} (h : alook T op u H = some v) : (∀ H', alook T op u H' = some v) ∨ ∃ b, readsB u b ∧ (∀ H', alook T op u H' = some v → (H'.get b).isSome) ∧ ∀ H' H'', H'.get b = H''.get b → alook T op u H' = alook T op u H'' := by
  cases op <;> simp only [alook] at h ⊢ <;> first
    | (cases h; done)
    | skip
  case load t x =>
    refine .inr ?_
    have key : ∃ b off, u = .pointer (some ⟨b, off, none⟩) := by
      unfold aload at h
      split at h
      · exact ⟨_, _, rfl⟩
      · cases h
    obtain ⟨b, off, rfl⟩ := key
    refine ⟨b, .inl ⟨off, rfl⟩, fun H' h' => ?_, fun H' H'' he => aload_congr he⟩
    unfold aload at h'
    simp only at h'
    split at h'
    · rename_i o _ _ ho _ _; rw [ho]; rfl
    · cases h'
  case convert s d x =>
    have h0 := h
    unfold aconvert at h
    split at h
    · rename_i sd k k' n hs hd
      refine .inl fun H' => ?_
      unfold aconvert
      simp only [hs, hd]
      exact h
    · rename_i e l c hs hd
      refine .inl fun H' => ?_
      unfold aconvert
      simp only [hs, hd]
      exact h
    · rename_i e b off n c hs hd
      refine .inr ⟨b, .inr ⟨off, n, c, rfl⟩, fun H' h' => ?_, fun H' H'' he => ?_⟩
      · unfold aconvert at h'
        simp only [hs, hd] at h'
        cases hu : isU8 (T.under e)
        · rw [hu] at h'; cases h'
        · rw [hu] at h'
          simp only [cond_true] at h'
          split at h'
          · rename_i o ho; rw [ho]; rfl
          · cases h'
      · unfold aconvert
        simp only [hs, hd, he]
    · cases h
theorem oprel_of {m : Map} {tm : Tr Value} {a : Act} {ops : Array Oper} {o : Oper} (h : ∀ t ∈ o.looksAt ops, VR m ((tm.get t).getD undef) (a.tmps.getD t undef)) : OpRel m tm a o.op.operands.toList := by
  intro x hx v hv
  cases x with
  | tmp t =>
    simp only [aeval] at hv
    cases hv
    exact h t (List.mem_append_left _ (List.mem_filterMap.2 ⟨.tmp t, hx, rfl⟩))
  | const c =>
    simp only [aeval] at hv
    cases hc : closed c
    · rw [hc] at hv; cases hv
    · rw [hc] at hv; cases hv; exact VR.of_closed hc
  | func f => simp only [aeval] at hv; cases hv; exact VR.of_closed rfl
  | global g => simp [aeval] at hv
section
variable {P : Program} {T : Tab} (hT : TabOk P T) {callf : FuncId → Array Value → Heap → Option (Value × Heap)} {n : Nat} {ops : Array Oper} {S : Nat → St} {V : Nat → Value}
  {m0 : Map} {a0 : Act} {w0 : World} {L : Array Bool} {τ : Nat} {m : Map} {a : Act} {w : World}
include hT in
theorem alook_sound0 {op : Op} {u u' v : Value} {H : Heap} {m : Map} {w : World} {x : Operand} (hx : lookArg op = some x) (h : alook T op u H = some v) (hr : Rep0 P m H w) (hu : VR m u u') {ρ : Operand → Value} (hρ : ρ x = u') {o : Oper} (ho : o.op = op) :
    ∃ v', (execOp ρ o).run P w = .ok (.value v') w ∧ VR m v v' := by
  cases op <;> simp only [lookArg] at hx <;> first
    | (cases hx; done)
    | skip
  case load t y =>
    cases hx
    obtain ⟨v', k1, k2⟩ := aload_sound0 hT h hr hu
    exact ⟨v', by simp [execOp, ho, hρ, k1], k2⟩
  case convert s d y =>
    cases hx
    obtain ⟨k1, k2⟩ := aconvert_sound0 hT h hr hu
    exact ⟨v, by simp [execOp, ho, hρ, k1], .same k2⟩
include hT in
theorem Inv.look (hC : Canon P T callf n ops S V) (hD : DrawOk T ops) (hd0 : ∀ b K, m0 b = some K → b < (S 0).H.n) (h : Inv P T n ops S V m0 a0 w0 L τ m a w) {j : Nat} {oj : Oper} (hj : ops[j]? = some oj) (hun : L.getD j false = false)
    (hready : ∀ e ∈ oj.after, binds e = true → L.getD e.on false = true) (hcj : cls T oj.op = .look) {x : Operand} {u : Value} (hop : lookArg oj.op = some x) (hu : aeval (S j).tm x = some u) (hl : alook T oj.op u (S j).H = some (V j)) (hw : awanted ops (S j).tm oj = true) :
    ∃ v', (execOp a.eval oj).run P w = .ok (.value v') w ∧ VR (cut m (bd S τ j)) (V j) v' := by
  have hjlt : j < ops.size := (Array.getElem?_eq_some_iff.1 hj).1
  have hxm : x ∈ oj.op.operands.toList := by
    rcases look_op hcj with ⟨t, y, e⟩ | ⟨s, d, y, e⟩
    · rw [e] at hop ⊢; cases hop; simp [Op.operands]
    · rw [e] at hop ⊢; cases hop; simp [Op.operands]
  have hvr := oprel_of (h.looks hC hD hd0 hj hun hready) x hxm u hu
  rcases alook_dep hl with hind | ⟨b, hrb, hlive0, hcong⟩
  · let Hf : Heap := { t := .lf, n := bd S τ j }
    have hget : ∀ y, Hf.get y = none := fun y => by cases y <;> rfl
    have hrep : Rep0 P (cut m (bd S τ j)) Hf w := ⟨fun y K' hy => (cut_some hy).1, fun y K' o hy ho => (by rw [hget] at ho; cases ho), fun b1 b2 K1 K2 h1 h2 h3 h4 hne => (by rw [hget] at h4; cases h4)⟩
    exact alook_sound0 hT hop (hind Hf) hrep hvr rfl rfl
  have hlive := hlive0 _ hl
  have hbj : b < (S j).H.n := hC.gn j (by omega) b hlive
  have hbase : ∃ K, cut m (bd S τ j) b = some K := by
    generalize a.eval x = ax at hvr
    rcases hrb with ⟨off, rfl⟩ | ⟨off, n', c', rfl⟩
    · cases hvr with
      | same hp => simp [plain] at hp
      | ptr hb => exact ⟨_, hb⟩
    · cases hvr with
      | same hp => simp [plain] at hp
      | slice hb _ => exact ⟨_, hb⟩
  obtain ⟨K, hK⟩ := hbase
  obtain ⟨hKb, hKm⟩ := cut_some hK
  -- acts that stand beside this look read the same
  have hact : ∀ q, q < ops.size → ActAt T ops q → ((q < j ∧ L.getD q false = false) ∨ (j < q ∧ L.getD q false = true)) →
      alook T oj.op u (S q).H = some (V j) ∧ alook T oj.op u (S (q + 1)).H = some (V j) := by
    intro q hq ⟨oq, hoq, hcq⟩ hside
    have hmem : (j, q) ∈ loose T ops := by
      refine loose_mem hj hoq hcj hcq (fun hlt => ?_) (fun hnlt => ?_)
      · rcases hside with ⟨h1, _⟩ | ⟨_, h2⟩
        · omega
        · cases hb : ((Region.before ops).getD q 0).testBit j with
          | false => rfl
          | true =>
            have := closed_before h.closed q j (fun o ho e he hbe => h.closed q o ho h2 e he hbe) hb
            rw [hun] at this; cases this
      · rcases hside with ⟨h1, h2⟩ | ⟨h1, _⟩
        · cases hb : ((Region.before ops).getD j 0).testBit q with
          | false => rfl
          | true =>
            have := closed_before h.closed j q (fun o ho e he hbe => by rw [hj] at ho; cases ho; exact hready e he hbe) hb
            rw [h2] at this; cases this
        · omega
    obtain ⟨s, o, hs, ho, hst⟩ := hC.steady (j, q) hmem
    simp only at hs ho hst
    rw [hj] at ho; cases ho; subst hs
    exact hst hw x _ _ hop hu hl
  have key : ∃ ob, BlkOk P (cut m (bd S τ j)) ob K w ∧ ∃ k, alook T oj.op u (S k).H = some (V j) ∧ (S k).H.get b = some ob := by
    have hsome : ∀ k, alook T oj.op u (S k).H = some (V j) → ∃ ob, (S k).H.get b = some ob := fun k hk => Option.isSome_iff_exists.1 (hlive0 _ hk)
    by_cases hbτ : b < (S τ).H.n
    · -- it lies as the acts so far have left it
      have hk : ∃ k, alook T oj.op u (S k).H = some (V j) ∧ (S τ).H.get b = (S k).H.get b := by
        rcases Nat.le_total τ j with hle | hle
        · rcases first_of (ActAt T ops) j τ hle with hno | ⟨q, q1, q2, q3, q4⟩
          · exact ⟨j, hl, (hC.stills j τ hle (by omega) hno b hbτ).symm⟩
          · exact ⟨q, (hact q (by omega) q3 (.inl ⟨q2, h.front.2.2 q q1 q3⟩)).1, (hC.stills q τ q1 (by omega) q4 b hbτ).symm⟩
        · rcases last_of (ActAt T ops) τ j hle with hno | ⟨q, q1, q2, q3, q4⟩
          · exact ⟨j, hl, hC.stills τ j hle h.front.1 hno b hbj⟩
          · have hqj : q ≠ j := fun e => by
              subst e
              have := (actAt_dec q oj hj).1 q3
              rw [hcj] at this; cases this
            have hlt : b < (S (q + 1)).H.n := Nat.lt_of_lt_of_le hbj (hC.monoLe (q + 1) j (by omega) (by have := h.front.1; omega))
            exact ⟨q + 1, (hact q (by have := h.front.1; omega) q3 (.inr ⟨by omega, h.front.2.1 q q2 q3⟩)).2, hC.stills τ (q + 1) (by omega) h.front.1 (fun k k1 k2 => q4 k (by omega) k2) b hlt⟩
      obtain ⟨k, hk1, hk2⟩ := hk
      obtain ⟨ob, hob⟩ := hsome k hk1
      exact ⟨ob, (h.blk b K ob hKm hbτ (by rw [hk2]; exact hob)).mono (cut_mono (Map.le_refl m) (by unfold bd; omega)) rfl, k, hk1, hob⟩
    · obtain ⟨i, g1, g2, g3, g4, g5⟩ := h.dom' hC hd0 hKm (by omega)
      have hij : i < j := by
        rcases Nat.lt_or_ge i j with h5 | h5
        · exact h5
        · have := hC.monoLe i j h5 (by omega); omega
      have hk : ∃ k, alook T oj.op u (S k).H = some (V j) ∧ (S (i + 1)).H.get b = (S k).H.get b := by
        rcases first_of (ActAt T ops) j (i + 1) hij with hno | ⟨q, q1, q2, q3, q4⟩
        · exact ⟨j, hl, (hC.stills j (i + 1) hij (by omega) hno b g5).symm⟩
        · exact ⟨q, (hact q (by omega) q3 (.inl ⟨q2, h.front.2.2 q (by omega) q3⟩)).1, (hC.stills q (i + 1) q1 (by omega) q4 b g5).symm⟩
      obtain ⟨k, hk1, hk2⟩ := hk
      obtain ⟨ob, hob⟩ := hsome k hk1
      refine ⟨ob, (h.blk2 i b K ob g1 g2 g3 hKm g4 g5 (by rw [hk2]; exact hob)).mono (cut_mono (Map.le_refl m) ?_) rfl, k, hk1, hob⟩
      have := hC.monoLe (j + 1) (i + 1) (by omega) (by omega)
      unfold bd; omega
  obtain ⟨ob, hblk, k, hk1, hk2⟩ := key
  let Hf : Heap := { t := Tr.lf.put b (some ob), n := bd S τ j }
  have hget : ∀ y, Hf.get y = if y = b then some ob else none := fun y => by
    show (Tr.lf.put b (some ob)).get y = _
    rw [Tr.get_put]
    rfl
  have hrep : Rep0 P (cut m (bd S τ j)) Hf w := by
    refine ⟨fun y K' hy => (cut_some hy).1, fun y K' o hy ho => ?_, fun b1 b2 K1 K2 h1 h2 h3 h4 hne => ?_⟩
    · rw [hget] at ho
      split at ho
      · rename_i e; subst e; cases ho
        rw [hK] at hy; cases hy; exact hblk
      · cases ho
    · obtain ⟨o, ho, _⟩ := h3
      rw [hget] at ho h4
      split at ho
      · rename_i e1
        split at h4
        · rename_i e2; exact absurd (e1.trans e2.symm) hne
        · simp at h4
      · cases ho
  have hl2 : alook T oj.op u Hf = some (V j) := by
    rw [hcong Hf (S k).H (by rw [hget, if_pos rfl, hk2])]
    exact hk1
  exact alook_sound0 hT hop hl2 hrep hvr rfl rfl
include hT in
/-- In whatever order. -/
theorem draw_sound [Bs] (hF : FnsOk P T) (hCall : CallOk P callf) (hC : Canon P T callf n ops S V) (hD : DrawOk T ops) (hd0 : ∀ b K, m0 b = some K → b < (S 0).H.n) (hb0 : Bas m0 (S 0).H w0) (hbox : ∀ o ∈ ops, boxOk P o) {Q : Exit → Act → World → Prop}
    (hq : ∀ L m a w, Inv P T n ops S V m0 a0 w0 L ops.size m a w → (∀ i, i < ops.size → L.getD i false = true) → Q .normal a w) :
    ∀ (fuel : Nat) (L : Array Bool) (τ : Nat) (m : Map) (a : Act) (w : World), (List.range ops.size).countP (fun i => !L.getD i false) ≤ fuel → Inv P T n ops S V m0 a0 w0 L τ m a w → wpAny P .any ops Q fuel L a w := by
  have hall : ∀ (L : Array Bool) τ m a w, Inv P T n ops S V m0 a0 w0 L τ m a w → (∀ i, i < ops.size → L.getD i false = true) → Q .normal a w := by
    intro L τ m a w h hl
    exact hq L m a w (h.shift hC hd0 h.front.1 ⟨Nat.le_refl _, fun q hq _ => hl q hq, fun q hq ⟨o, ho, _⟩ => by have := (Array.getElem?_eq_some_iff.1 ho).1; omega⟩) hl
  have hreadyNil : ∀ (L : Array Bool) τ m a w, Inv P T n ops S V m0 a0 w0 L τ m a w → Region.ready .any ops L = [] → ∀ i, i < ops.size → L.getD i false = true := by
    intro L τ m a w h hnil i
    induction i using Nat.strongRecOn with
    | _ i ih =>
      intro hi
      cases hL : L.getD i false with
      | true => rfl
      | false =>
        have hmem : i ∈ Region.ready .any ops L := by
          rw [mem_ready]
          have hiL : i < L.size := by rw [h.sizeL]; exact hi
          refine ⟨by simpa [Array.getD_eq_getD_getElem?, hiL] using hL, ops[i], Array.getElem?_eq_getElem hi, fun e he hb => ?_⟩
          have hlt := hD.edge i ops[i] (Array.getElem?_eq_getElem hi) e he hb
          exact ih e.on hlt (by omega)
        rw [hnil] at hmem; cases hmem
  intro fuel
  induction fuel with
  | zero =>
    intro L τ m a w hcnt h
    have hl : ∀ i, i < ops.size → L.getD i false = true := by
      intro i hi
      have := List.countP_eq_zero.1 (Nat.le_zero.1 hcnt) i (by simpa using hi)
      simpa using this
    refine ⟨?_, hall L τ m a w h hl⟩
    cases hr : Region.ready .any ops L with
    | nil => rfl
    | cons i r =>
      have hmem : i ∈ Region.ready .any ops L := by rw [hr]; simp
      obtain ⟨h1, o, ho, _⟩ := mem_ready.1 hmem
      have hi := (Array.getElem?_eq_some_iff.1 ho).1
      have h2 := hl i hi
      have hiL : i < L.size := by rw [h.sizeL]; exact hi
      simp [Array.getD_eq_getD_getElem?, hiL] at h1 h2
      rw [h1] at h2; cases h2
  | succ fuel ih =>
    intro L τ m a w hcnt h
    refine ⟨fun hnil => hall L τ m a w h (hreadyNil L τ m a w h hnil), fun j hj => ?_⟩
    obtain ⟨hun0, oj, hoj, hready0⟩ := mem_ready.1 hj
    have hjlt : j < ops.size := (Array.getElem?_eq_some_iff.1 hoj).1
    have hjL : j < L.size := by rw [h.sizeL]; exact hjlt
    have hun : L.getD j false = false := by simp [Array.getD_eq_getD_getElem?, hjL] at hun0 ⊢; exact hun0
    have hready : ∀ e ∈ oj.after, binds e = true → L.getD e.on false = true := hready0
    have hcnt' : (List.range ops.size).countP (fun i => !(L.setIfInBounds j true).getD i false) ≤ fuel := by
      have key : ∀ (l : List Nat), l.Nodup → j ∈ l → l.countP (fun i => !(L.setIfInBounds j true).getD i false) + 1 = l.countP (fun i => !L.getD i false) := by
        intro l
        induction l with
        | nil => intro _ h; cases h
        | cons y l ihl =>
          intro hnd hmem
          simp only [List.nodup_cons] at hnd
          simp only [List.countP_cons]
          by_cases e : y = j
          · subst e
            have hsame : l.countP (fun i => !(L.setIfInBounds y true).getD i false) = l.countP (fun i => !L.getD i false) := by
              apply List.countP_congr
              intro z hz
              have hne : z ≠ y := fun e => by subst e; exact hnd.1 hz
              rw [set_getD, if_neg (fun (e : z = y ∧ y < L.size) => hne e.1)]
            have e1 : (L.setIfInBounds y true).getD y false = true := by rw [set_getD, if_pos ⟨rfl, hjL⟩]
            rw [hsame, e1, hun]
            simp
          · have hm : j ∈ l := by
              rcases List.mem_cons.1 hmem with h | h
              · exact absurd h.symm e
              · exact h
            have := ihl hnd.2 hm
            rw [set_getD, if_neg (fun (h : y = j ∧ j < L.size) => e h.1)]
            omega
      have := key _ List.nodup_range (by simpa using hjlt)
      omega
    rw [wpOp_eq hoj]
    have hbj : boxOk P oj := hbox oj (Array.mem_of_getElem? hoj)
    have hlk := h.looks hC hD hd0 hoj hun hready
    have hwant : Region.wanted oj (yielded ops a.tmps) = awanted ops (S j).tm oj := awanted_eq (m := cut m (bd S τ j)) fun g want hg d hd => hlk d (by
      unfold Oper.looksAt
      rw [hg]
      simp [hd])
    have hout := hC.out j oj hoj
    by_cases hact : ActAt T ops j
    · -- it may write
      have hfr : Front T ops L j := by
        refine ⟨by omega, fun q hq hqa => ?_, fun q hq hqa => ?_⟩
        · obtain ⟨oq, hoq, hcq⟩ := hqa
          have hord := hD.act q j oq oj (by omega) hoq hoj hcq ((actAt_dec j oj hoj).1 hact)
          unfold ordered at hord
          have hb : q.blt j = true := by simpa [Nat.blt_eq] using hq
          rw [hb] at hord
          exact closed_before h.closed j q (fun o ho e he hbe => by rw [hoj] at ho; cases ho; exact hready e he hbe) hord
        · by_cases e : q = j
          · subst e; exact hun
          · cases hq' : L.getD q false with
            | false => rfl
            | true =>
              obtain ⟨oq, hoq, hcq⟩ := hqa
              have hord := hD.act j q oj oq (by omega) hoj hoq ((actAt_dec j oj hoj).1 hact) hcq
              unfold ordered at hord
              have hb : j.blt q = true := by simp [Nat.blt_eq]; omega
              rw [hb] at hord
              have := closed_before h.closed q j (fun o ho e he hbe => h.closed q o ho hq' e he hbe) hord
              rw [hun] at this; cases this
      have hτj : τ ≤ j := by
        rcases Nat.lt_or_ge j τ with h5 | h5
        · have := h.front.2.1 j h5 hact
          rw [hun] at this; cases this
        · exact h5
      have hs := h.shift hC hd0 hτj hfr
      have hrep : Rep P (cut m (S j).H.n) (S j).H w := by
        refine ⟨⟨fun b K hb => (cut_some hb).1, fun b K ob hb ho => ?_, fun b1 b2 K1 K2 h1 h2 h3 h4 hne => ?_⟩, ⟨hs.onb hb0, fun b K hb hw => ?_⟩⟩
        rotate_left 2
        · obtain ⟨g1, g2⟩ := cut_some hb
          obtain ⟨o1, k1, k2⟩ := hw
          exact hs.own' hb0 hd0 g2 g1 k1 k2
        · obtain ⟨g1, g2⟩ := cut_some hb
          exact hs.blk b K ob g2 g1 ho
        · obtain ⟨g1, g2⟩ := cut_some h1
          obtain ⟨g3, g4⟩ := cut_some h2
          obtain ⟨o1, k1, k2⟩ := h3
          obtain ⟨o2, k3⟩ := Option.isSome_iff_exists.1 h4
          exact hs.inj b1 b2 K1 K2 o1 o2 g2 g4 hne (.inl ⟨g1, k1⟩) k2 (.inl ⟨g3, k3⟩)
      have hop : OpRel (cut m (S j).H.n) (S j).tm a oj.op.operands.toList := by
        refine oprel_of (ops := ops) fun t ht => ?_
        obtain ⟨e1, e2⟩ := hC.tms hD t j (by omega)
        by_cases hex : ∃ i oi, ops[i]? = some oi ∧ oi.dst = some t ∧ L.getD i false = true
        · obtain ⟨i, oi, hi, hd, hl⟩ := hex
          have hilt : i < ops.size := (Array.getElem?_eq_some_iff.1 hi).1
          have hij : i < j := by
            obtain ⟨hne, hord⟩ := hD.look i j oi oj t hi hoj hd ht
            rcases Nat.lt_or_ge i j with h5 | h5
            · exact h5
            · unfold ordered at hord
              have hb : i.blt j = false := by
                cases hb : i.blt j
                · rfl
                · have : i < j := by simpa [Nat.blt_eq] using hb
                  omega
              rw [hb] at hord
              have := closed_before h.closed i j (fun o ho e he hbe => h.closed i o ho hl e he hbe) hord
              rw [hun] at this; cases this
          rw [e1 i oi hij hi hd]
          refine (hs.tmv i oi t hi hl hd).mono (cut_mono (Map.le_refl m) ?_)
          have := hC.monoLe j (i + 1) (by omega) (by omega)
          unfold bd; omega
        · have hno : ∀ i oi, ops[i]? = some oi → L.getD i false = true → oi.dst ≠ some t := fun i oi hi hl hd => hex ⟨i, oi, hi, hd, hl⟩
          rw [e2 fun i oi hi hoi hd => by
            obtain ⟨hne, hord⟩ := hD.look i j oi oj t hoi hoj hd ht
            unfold ordered at hord
            have hb : i.blt j = true := by simpa [Nat.blt_eq] using hi
            rw [hb] at hord
            exact hno i oi hoi (closed_before h.closed j i (fun o ho e he hbe => by rw [hoj] at ho; cases ho; exact hready e he hbe) hord) hd]
          refine (hs.tm0 t hno).mono fun b K hb => cut_mk ?_ (hs.le _ _ hb)
          have h3 := hd0 b K hb
          have := hC.monoLe j 0 (by omega) (by omega)
          omega
      refine out_sound (m := cut m (S j).H.n) hT hF hCall hbj hout hop hwant hrep (fun r H1 he => (aop_grows he).2 (hC.gn j (by omega))) fun v' w' m' hv hr hf => ?_
      exact ih _ (j + 1) _ _ _ hcnt' (hs.act_step hC hD hd0 hoj hun hready hact hv hr hf)
    · -- it only reads or makes
      have hnc : cls T oj.op ≠ .act := fun e => hact ⟨oj, hoj, e⟩
      unfold wpO
      rw [hwant]
      rcases hout with ⟨h1, h2, h3⟩ | ⟨h1, r, H1, h2, h3⟩
      · rw [h1, if_neg (by simp)]
        refine ih _ τ m _ _ hcnt' ?_
        exact h.quiet_step hC hD hoj hun hready hact (by rw [h3]) (by rw [h2]; exact VR.of_closed rfl)
      · rw [h1, if_pos rfl]
        refine .inl ?_
        have hval : ∃ v, r = .val v ∧ V j = v ∧ (S (j + 1)).H = H1 := by
          rcases h3 with ⟨e1, e2⟩ | ⟨e1, e2, e3⟩ | ⟨f, args, e1, _⟩
          · exact ⟨_, e1, rfl, e2⟩
          · exfalso
            subst e1
            rcases hcl : cls T oj.op with _ | _ | _
            · rcases free_sound (P := P) (m := cut m (bd S τ j)) (a := a) hT hcl hbj h2 (oprel_of hlk) with ⟨_, v, hv, _⟩ | ⟨_, v, _, hv, _⟩ <;> cases hv
            · rcases look_op hcl with ⟨t, x, hop⟩ | ⟨sd, dd, x, hop⟩ <;>
                · unfold aop at h2
                  simp only [hop] at h2
                  split at h2
                  · unfold val at h2; split at h2 <;> cases h2
                  · cases h2
            · exact hnc hcl
          · exact absurd (by rw [e1] at h2; exact enter_act h2) hnc
        obtain ⟨v, rfl, hVj, hH⟩ := hval
        rcases hcl : cls T oj.op with _ | _ | _
        · rcases free_sound (P := P) (m := cut m (bd S τ j)) (a := a) hT hcl hbj h2 (oprel_of hlk) with ⟨hH1, u, hu, hrun⟩ | ⟨ob, u, hH1, hu, hrun⟩
          · cases hu
            obtain ⟨v', k1, k2⟩ := hrun w
            unfold Oper.wp
            rw [k1]
            exact ih _ τ m _ _ hcnt' (h.quiet_step hC hD hoj hun hready hact (by rw [hH, hH1]) (by rw [hVj]; exact k2))
          · cases hu
            obtain ⟨q, ⟨v', cs, i, k1, k2, k3, k4, k5, k6⟩, k7⟩ := hrun w
            unfold Oper.wp
            rw [k7, k1]
            exact ih _ τ _ _ _ hcnt' (h.make_step hC hD hd0 hoj hun hready hact (by rw [hH, hH1]) k2 k3 k4 k5 (by rw [hVj]; exact k6))
        · have key2 : (∃ x u, lookArg oj.op = some x ∧ aeval (S j).tm x = some u ∧ alook T oj.op u (S j).H = some (V j) ∧ H1 = (S j).H) ∨ (fallback P (S j).tm oj = some (V j) ∧ H1 = (S j).H ∧ ∀ cs b, oj.op ≠ .select cs b) := by
            rcases look_op hcl with ⟨t, x, hop⟩ | ⟨sd, dd, x, hop⟩
            · unfold aop at h2
              simp only [hop] at h2
              split at h2
              · rename_i u hu
                have hH1 := val_H h2
                refine .inl ⟨x, u, by rw [hop]; rfl, hu, ?_, hH1⟩
                rw [hop]
                unfold val at h2
                split at h2
                · rename_i v0 hv0; cases h2; rw [hVj]; exact hv0
                · cases h2
              · cases h2
            · unfold aop at h2
              simp only [hop] at h2
              split at h2
              · rename_i u hu
                have hH1 := val_H h2
                cases hcv : aconvert T sd dd u (S j).H with
                | some v0 =>
                  refine .inl ⟨x, u, by rw [hop]; rfl, hu, ?_, hH1⟩
                  rw [hop]
                  rw [hcv] at h2
                  simp only [orVal, val] at h2
                  cases h2
                  rw [hVj]; exact hcv
                | none =>
                  rw [hcv] at h2
                  simp only [orVal] at h2
                  refine .inr ⟨?_, hH1, by rw [hop]; simp⟩
                  unfold val at h2
                  split at h2
                  · rename_i v0 hv0; cases h2; rw [hVj]; exact hv0
                  · cases h2
              · cases h2
          rcases key2 with ⟨x, u, hop, hu, hl, hH1⟩ | ⟨hfb, hH1, hns⟩
          · obtain ⟨v', k1, k2⟩ := h.look hT hC hD hd0 hoj hun hready hcl hop hu hl h1
            unfold Oper.wp
            rw [k1]
            exact ih _ τ m _ _ hcnt' (h.quiet_step hC hD hoj hun hready hact (by rw [hH, hH1]) k2)
          · obtain ⟨k1, k2⟩ := fallback_sound (P := P) (m := cut m (bd S τ j)) (w := w) (oprel_of hlk) hns hfb
            unfold Oper.wp
            rw [k1]
            exact ih _ τ m _ _ hcnt' (h.quiet_step hC hD hoj hun hready hact (by rw [hH, hH1]) (VR.of_closed k2))
        · exact absurd hcl hnc
end
end Go.Ev
