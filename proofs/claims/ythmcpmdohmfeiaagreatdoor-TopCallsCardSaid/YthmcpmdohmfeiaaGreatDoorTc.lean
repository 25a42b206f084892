/- What keeps an instruction from being done (step.Check), for any number that it bears; a law's run; from a call to the row. -/
import Derived.Test.YthmcpmdohmfeiaaGreatDoorTa
import Derived.WalkKit
import Derived.Lib.Hide
import Derived.RegionTactic
namespace Go.Proofs.YthmcpmdohmfeiaaGreatDoor
open Go Go.Ev Go.ChangeShapes Go.WideShapes Go.ChangeAt Go.RowKit
set_option linter.unusedVariables false
set_option linter.unusedSimpArgs false
set_option maxRecDepth 100000
namespace Tp
noncomputable section
noncomputable def T0 : Tab := tabOf Tryz.prog
/-- The blocks of slices. -/
noncomputable def bsV : List Value → List Nat
  | [] => []
  | v :: r => match v with
    | .slice (some ⟨b, _, none⟩) _ _ => b :: bsV r
    | _ => bsV r
noncomputable def roO (o : Ob) : Ob := { o with ro := true }
/-- Memory of which the slices' rows alone are known, and may not be written. -/
noncomputable def subH (l : List Value) (H : Heap) : Heap := ⟨full 15 fun b => bif (bsV l).contains b then (H.get b).map roO else none, H.n⟩
theorem subH_get {l : List Value} {H : Heap} {b : Nat} {o : Ob} (h : (subH l H).get b = some o) : b ∈ bsV l ∧ ∃ o0, H.get b = some o0 ∧ o = roO o0 := by
  have e15 : (2 : Nat) ^ 15 = 32768 := rfl
  by_cases hb : b + 1 < 2 ^ 15
  · have e : (subH l H).get b = _ := full_get 15 (fun b => bif (bsV l).contains b then (H.get b).map roO else none) b hb
    rw [e] at h
    cases hc : (bsV l).contains b <;> rw [hc] at h
    · cases h
    · rw [cond_true] at h
      obtain ⟨o0, h1, h2⟩ := Option.map_eq_some_iff.1 h
      exact ⟨by simpa using hc, o0, h1, h2.symm⟩
  · have e : (subH l H).get b = none := full_none 15 (fun b => bif (bsV l).contains b then (H.get b).map roO else none) b hb
    rw [e] at h; cases h
theorem subH_wr {l : List Value} {H : Heap} {b : Nat} : ¬ (subH l H).wr b := by
  rintro ⟨o, h1, h2⟩
  obtain ⟨_, o0, _, rfl⟩ := subH_get h1
  cases h2
theorem bsV_mem : ∀ {l : List Value} {b : Nat}, b ∈ bsV l → ∃ off len cap, Value.slice (some ⟨b, off, none⟩) len cap ∈ l := by
  intro l
  induction l with
  | nil => intro b h; cases h
  | cons v r ih =>
    intro b h
    unfold bsV at h
    split at h
    · rename_i b' off len cap
      rcases List.mem_cons.1 h with rfl | h
      · exact ⟨off, len, cap, List.mem_cons_self⟩
      · obtain ⟨o, n, c, h⟩ := ih h; exact ⟨o, n, c, List.mem_cons_of_mem _ h⟩
    · obtain ⟨o, n, c, h⟩ := ih h; exact ⟨o, n, c, List.mem_cons_of_mem _ h⟩
theorem slice_at {m : Map} {b off len cap : Nat} {y : Value} (h : VR m (.slice (some ⟨b, off, none⟩) len cap) y) : ∃ L, m b = some L ∧ L.mp = false := by
  cases h with
  | same h => cases h
  | slice h hl _ => exact ⟨_, h, hl⟩
theorem agg_at {m : Map} {s : Array Value} {y : Value} (h : VR m (.agg s) y) {v : Value} (hv : v ∈ s.toList) : ∃ y', VR m v y' := by
  cases h with
  | same h => cases h
  | agg hs h =>
    obtain ⟨i, hi, rfl⟩ := List.getElem_of_mem hv
    have hi' : i < s.size := by simpa using hi
    exact ⟨_, by simpa using h i hi' (by omega)⟩
theorem det {k k' : Nat} {f : FuncId} {args : Array Value} {H H1 H2 : Heap} {v v' : Value} (h : evCall Tryz.prog T0 k f args H = some (v, H1)) (h' : evCall Tryz.prog T0 k' f args H = some (v', H2)) : v = v' := by
  have a := evCall_le (P := Tryz.prog) (T := T0) (Nat.le_max_left k k') f args H _ h
  have b := evCall_le (P := Tryz.prog) (T := T0) (Nat.le_max_right k k') f args H _ h'
  rw [a] at b; cases b; rfl
noncomputable def SpOk (s : Array Value) (i : Value) (H : Heap) (v : Value) : Prop := closed v = true ∧ ∃ k H', evCall Tryz.prog T0 k 144 #[.agg s, i] (subH s.toList H) = some (v, H')
open Classical in
/-- What step.Check answers, where its stacks' rows alone are known. -/
noncomputable def sp144 (l : List Value) (H : Heap) : Option Value := match l with
  | [.agg s, i] => if h : ∃ v, SpOk s i H v then some (Classical.choose h) else none
  | _ => none
theorem sp144_of {s : Array Value} {i : Value} {H H' : Heap} {v : Value} {k : Nat} (hc : closed v = true) (h : evCall Tryz.prog T0 k 144 #[.agg s, i] (subH s.toList H) = some (v, H')) : sp144 [.agg s, i] H = some v := by
  have hx : ∃ v, SpOk s i H v := ⟨v, hc, k, H', h⟩
  unfold sp144
  simp only [dif_pos hx]
  obtain ⟨_, k', H2, h2⟩ := Classical.choose_spec hx
  rw [det h h2]
theorem sp144_sound [Bs] (args : Array Value) (H : Heap) (v : Value) (h : sp144 args.toList H = some v) : closed v = true ∧ ∀ (m : Map) (w : World) (args' : Array Value), HWf H → Rep Tryz.prog m H w → VRs m args.toList args'.toList → Calls Tryz.prog 144 args' w fun e w' => e = .returned v ∧ Quiet w w' := by
  unfold sp144 at h
  split at h
  · rename_i s i hl
    split at h
    · rename_i hx
      have hv := Classical.choose_spec hx
      cases h
      generalize Classical.choose hx = v at hv ⊢
      obtain ⟨hc, k, H', hev⟩ := hv
      refine ⟨hc, fun m w args' hwf hr ha => ?_⟩
      have he : args = #[.agg s, i] := by cases args; simp only at hl; rw [hl]
      subst he
      have hwf' : HWf (subH s.toList H) := fun b hb => by
        obtain ⟨o, ho⟩ := Option.isSome_iff_exists.1 hb
        obtain ⟨_, o0, h1, _⟩ := subH_get ho
        exact hwf b (by simp [h1])
      have hsl : ∀ b, b ∈ bsV s.toList → ∃ L, m b = some L ∧ L.mp = false := fun b hb => by
        obtain ⟨off, len, cap, hm⟩ := bsV_mem hb
        obtain ⟨y, _, hy⟩ := ha.2 0 (.agg s) rfl
        obtain ⟨y', hy'⟩ := agg_at hy hm
        exact slice_at hy'
      have hr' : Rep Tryz.prog m (subH s.toList H) w := by
        refine ⟨⟨hr.dom, fun b L o hb ho => ?_, fun b1 b2 L1 L2 _ _ hw => absurd hw subH_wr⟩, ⟨hr.bas.toOnBs, fun b L _ hw => absurd hw subH_wr⟩⟩
        obtain ⟨hm, o0, h1, rfl⟩ := subH_get ho
        obtain ⟨L', h2, h3⟩ := hsl b hm
        rw [hb] at h2; cases h2
        rcases hr.blk b L o0 hb h1 with ⟨hl', cs, e, fz, k1, k2, k3, k4, k5⟩ | ⟨hl', _⟩
        · exact .inl ⟨hl', cs, e, fz, k1, k2, k3, (fun q => (by cases q)), k5⟩
        · rw [h3] at hl'; cases hl'
      refine (evCall_sound progOk0 hev hwf' hr' ha).mono fun e w' hp => ?_
      obtain ⟨v', m', rfl, hv', _, hf⟩ := hp
      rw [hv'.closed_eq hc]
      exact ⟨rfl, hf.os, hf.tape, hf.output, hf.size, fun c hc => hf.keep c hc (by rintro ⟨b, L, _, hw, _⟩; exact absurd hw subH_wr)⟩
    · cases h
  · cases h
/-- The tables: step.Check is known besides. -/
noncomputable def T01 : Tab := { T0 with fn := fun f => bif Nat.beq f 144 then none else T0.fn f, mor := fun f l H => bif Nat.beq f 144 then same sp144 l H else T0.mor f l H, has := fun f => bif Nat.beq f 144 then true else T0.has f }
theorem progOk01 [Bs] : ProgOk Tryz.prog T01 := ProgOk.withMor progOk0 144 (by kernel_rfl) sp144 sp144_sound
/-! Numbers brought within bounds (innkeeperbook.Within) -/
theorem ret_one {k : IntKind} {a b : Int} (h : a = b) : Ending.returned (.int k a) = .returned (.int k b) := by rw [h]
theorem tmod_emod (n m : Int) (hm : 0 < m) : n.tmod m = if 0 ≤ n then n % m else if n % m = 0 then 0 else n % m - m := by
  split
  · rename_i h; exact Int.tmod_eq_emod_of_nonneg h
  · rename_i h
    have h1 : n.tmod m = - ((-n) % m) := by
      have := Int.neg_tmod (-n) m
      rw [Int.neg_neg] at this
      rw [this, Int.tmod_eq_emod_of_nonneg (by omega)]
    have h2 : (-n) % m = if n % m = 0 then 0 else m - n % m := by
      have hd := Int.mul_ediv_add_emod n m
      have hp := Int.emod_nonneg n (by omega : m ≠ 0)
      have hq := Int.emod_lt_of_pos n hm
      split
      · rename_i h0
        have : m ∣ n := Int.dvd_of_emod_eq_zero h0
        exact Int.emod_eq_zero_of_dvd (Int.dvd_neg.2 this)
      · rename_i h0
        have e : -n = (m - n % m) + m * (-(n / m) - 1) := by
          rw [Int.mul_sub, Int.mul_neg, Int.mul_one]; omega
        rw [e, Int.add_mul_emod_self_left]
        exact Int.emod_eq_of_lt (by omega) (by omega)
    rw [h1, h2]; split <;> omega
set_option maxHeartbeats 400000 in
theorem within_any (n lo hi : Int) (w : World) (h0 : -9223372036854775808 ≤ n) (h1 : n ≤ 9223372036854775807) (h2 : 0 ≤ lo) (h3 : lo ≤ hi) (h4 : hi ≤ 1099511627776) :
    Calls Tryz.prog 15 #[.int .i64 n, .int .i64 lo, .int .i64 hi] w fun e w' => e = .returned (.int .i64 (lo + n % (hi - lo + 1))) ∧ w = w' := by
  have ht := tmod_emod n (hi - lo + 1) (by omega)
  have hp := Int.emod_nonneg n (by omega : hi - lo + 1 ≠ 0)
  have hq := Int.emod_lt_of_pos n (by omega : 0 < hi - lo + 1)
  generalize n % (hi - lo + 1) = r at *
  have b1 : -(hi - lo + 1) < n.tmod (hi - lo + 1) := by rw [ht]; split <;> (try split) <;> omega
  have b2 : n.tmod (hi - lo + 1) < hi - lo + 1 := by rw [ht]; split <;> (try split) <;> omega
  have Ht := Lib.hid ht
  clear ht
  go_enter Tryz.func15, Tryz.ntmps15
  go_wp2
  all_goals
    go_ret
    refine ⟨ret_one ?_, rfl⟩
    have := Ht.out
    revert this
    split <;> (try split) <;> intro this <;> omega

noncomputable def inB (n lo hi : Int) : Bool := decide (-9223372036854775808 ≤ n) && decide (n ≤ 9223372036854775807) && decide (0 ≤ lo) && decide (lo ≤ hi) && decide (hi ≤ 1099511627776)
noncomputable def sp15 (l : List Value) (_ : Heap) : Option Value := match l with
  | [.int .i64 n, .int .i64 lo, .int .i64 hi] => bif inB n lo hi then some (.int .i64 (lo + n % (hi - lo + 1))) else none
  | _ => none
theorem sp15_sound [Bs] (args : Array Value) (H : Heap) (v : Value) (h : sp15 args.toList H = some v) : closed v = true ∧ ∀ (m : Map) (w : World) (args' : Array Value), HWf H → Rep Tryz.prog m H w → VRs m args.toList args'.toList → Calls Tryz.prog 15 args' w fun e w' => e = .returned v ∧ Quiet w w' := by
  unfold sp15 at h
  split at h
  · rename_i n lo hi hl
    cases hb : inB n lo hi
    · rw [hb] at h; cases h
    · rw [hb] at h
      cases h
      unfold inB at hb
      simp only [Bool.and_eq_true, decide_eq_true_eq] at hb
      obtain ⟨⟨⟨⟨h1, h2⟩, h3⟩, h4⟩, h5⟩ := hb
      refine ⟨rfl, fun m w args' _ _ ha => ?_⟩
      have he : args = #[.int .i64 n, .int .i64 lo, .int .i64 hi] := by cases args; simp only at hl; rw [hl]
      subst he
      have hy : args' = #[.int .i64 n, .int .i64 lo, .int .i64 hi] := by
        obtain ⟨hlen, hat⟩ := ha
        obtain ⟨y0, e0, v0⟩ := hat 0 _ rfl
        obtain ⟨y1, e1, v1⟩ := hat 1 _ rfl
        obtain ⟨y2, e2, v2⟩ := hat 2 _ rfl
        rw [v0.plain_eq rfl] at e0
        rw [v1.plain_eq rfl] at e1
        rw [v2.plain_eq rfl] at e2
        apply Array.ext'
        apply List.ext_getElem?
        intro i
        match i with
        | 0 => exact e0
        | 1 => exact e1
        | 2 => exact e2
        | i + 3 =>
          have h3 : args'.toList.length = 3 := by rw [← hlen]; rfl
          rw [List.getElem?_eq_none (by omega), List.getElem?_eq_none (by simp)]
      subst hy
      exact (within_any n lo hi w h1 h2 h3 h4 h5).mono fun e w' he => ⟨he.1, by rw [← he.2]; exact Quiet.refl _⟩
  · cases h
/-- The tables: what is brought within bounds is known besides. -/
noncomputable def T1 : Tab := { T01 with fn := fun f => bif Nat.beq f 15 then none else T01.fn f, mor := fun f l H => bif Nat.beq f 15 then same sp15 l H else T01.mor f l H, has := fun f => bif Nat.beq f 15 then true else T01.has f }
theorem progOk1 [Bs] : ProgOk Tryz.prog T1 := ProgOk.withMor progOk01 15 (by kernel_rfl) sp15 sp15_sound
/-! By the kernel -/
noncomputable def slI (v : SV) (F : Nat → Bool) (G : Bool) : Bool := match v with
  | .sl b _ _ _ => F b
  | _ => G
noncomputable def subK (l : List SV) (t : HT) : HT → (HT → Bool) → Bool := List.rec (motive := fun _ => HT → (HT → Bool) → Bool) (fun u K => K u) (fun v _ ih u K => slI v (fun b => obK b t fun c e r => hpK b (some ⟨c, e, true⟩) u fun u => ih u K) (ih u K)) l
theorem subK_true {t : HT} : ∀ {l : List SV} {u : HT} {K : HT → Bool}, subK l t u K = true → ∃ u', K u' = true ∧ ∀ ρ b, b < 32767 → (hAt b u').map (SOb.inst ρ) = (bif (bsV (instL ρ l)).contains b then ((hAt b t).map (SOb.inst ρ)).map roO else (hAt b u).map (SOb.inst ρ)) := by
  intro l
  induction l with
  | nil => intro u K h; exact ⟨u, h, fun ρ b _ => rfl⟩
  | cons v l ih =>
    intro u K h
    have h : slI v (fun b => obK b t fun c e r => hpK b (some ⟨c, e, true⟩) u fun u => subK l t u K) (subK l t u K) = true := h
    unfold slI at h
    split at h
    · rename_i b0 o0 l0 c0 _
      obtain ⟨c, e, r, h1, h2, h⟩ := obK_at h
      obtain ⟨h3, h⟩ := hpK_set h
      obtain ⟨u', h4, h5⟩ := ih h
      refine ⟨u', h4, fun ρ b hb => ?_⟩
      have eb : bsV (instL ρ (.sl b0 o0 l0 c0 :: l)) = b0 :: bsV (instL ρ l) := rfl
      rw [h5 ρ b hb, eb, List.contains_cons]
      have e5 : (8 : Nat) ^ 5 = 32768 := rfl
      have hu : hAt b (nSet b0 (some ⟨c, e, true⟩) 5 u) = if b = b0 then some ⟨c, e, true⟩ else hAt b u := by
        unfold hAt
        rw [nAt_nSet, e5, Nat.mod_eq_of_lt (by omega), Nat.mod_eq_of_lt (by omega)]
      rw [hu]
      by_cases hbb : b = b0
      · subst hbb
        rw [if_pos rfl, beq_self_eq_true, Bool.true_or, cond_true, h2]
        cases (bsV (instL ρ l)).contains b <;> rfl
      · rw [if_neg hbb, show (b == b0) = false from beq_eq_false_iff_ne.2 hbb, Bool.false_or]
    · rename_i hne
      obtain ⟨u', h4, h5⟩ := ih h
      refine ⟨u', h4, fun ρ b hb => ?_⟩
      have eb : bsV (instL ρ (v :: l)) = bsV (instL ρ l) := by
        cases v <;> first | rfl | exact absurd rfl (hne _ _ _ _)
      rw [h5 ρ b hb, eb]
theorem sub_inst {t u : HT} {l : List SV} (ρ : Nat → Nat) (m : Nat) (h : ∀ b, b < 32767 → (hAt b u).map (SOb.inst ρ) = (bif (bsV (instL ρ l)).contains b then ((hAt b t).map (SOb.inst ρ)).map roO else (hAt b em).map (SOb.inst ρ))) : instH ρ u m = subH (instL ρ l) (instH ρ t m) := by
  unfold instH subH
  congr 1
  refine full_congr 15 _ _ fun b hb => ?_
  have hb : b < 32767 := by
    have : (2 : Nat) ^ 15 = 32768 := rfl
    omega
  rw [h b hb]
  have e : (Heap.get ⟨full 15 fun b => (hAt b t).map (SOb.inst ρ), m⟩ b) = (hAt b t).map (SOb.inst ρ) := get_instH (n := m) hb
  rw [e]
  have e2 : (hAt b em).map (SOb.inst ρ) = none := by unfold hAt em; rw [nAt_rep]; rfl
  rw [e2]
noncomputable def i64K (v : SV) (F : Nat → Bool) : Bool := match v with
  | .n .i64 c => F c
  | _ => false
noncomputable def one (G : List Asm) (s : List SV) (op x : SV) (u : HT) (m : Nat) (F : Nat → Bool) : Bool := callN (EG G) 40 144 [.ag s, .ag [op, x]] u m fun v _ _ => i64K v F
theorem one_ok {ρ : Nat → Nat} {G : List Asm} (hG : ∀ a ∈ G, a.ok ρ) {s : List SV} {op x : SV} {u : HT} {m : Nat} {F : Nat → Bool} (h : one G s op x u m F = true) : ∃ c k H', evCall Tryz.prog T0 k 144 #[.agg ⟨instL ρ s⟩, .agg #[op.inst ρ, x.inst ρ]] (instH ρ u m) = some (.int .i64 (.ofNat c), H') ∧ F c = true := by
  have ha := callN_ok (EG_ok hG) 40 144 _ u m _ (fun v _ => ∃ c, v = .int .i64 (.ofNat c) ∧ F c = true) h fun v t' m' hk => by
    unfold i64K at hk
    split at hk
    · exact ⟨_, rfl, hk⟩
    · cases hk
  unfold ACall at ha
  obtain ⟨k, v, H', h1, c, rfl, h2⟩ := ha
  exact ⟨c, k, H', h1, h2⟩
/-- A number that is not below eleven, told so. -/
noncomputable def farW (w : W) : W := [.p [.d w (litW 11) 0 32] (litW 11) 0 32]
theorem farW_ev {ρ : Nat → Nat} {w : W} (h1 : 11 ≤ evW ρ w) (h2 : evW ρ w < 4294967296) : evW ρ (farW w) = evW ρ w := by
  have e32 : (2 : Nat) ^ 32 = 4294967296 := rfl
  simp only [farW, evW, Seg.val, litW_ev, Nat.pow_zero, Nat.div_one, Nat.mul_zero, Nat.add_zero, e32]
  rw [Nat.mod_eq_of_lt (show evW ρ w - 11 < 4294967296 by omega), Nat.mod_eq_of_lt (by omega)]
  omega
noncomputable def lits (F : Nat → Bool → Bool) (l : List Nat) (K : Bool) : Bool := List.rec (motive := fun _ => Bool) K (fun k _ ih => F k ih) l
noncomputable def chk (G : List Asm) (args : List SV) (t : HT) (m : Nat) (K : KV) : Bool := match args with
  | [.ag s, .ag [op, x]] => subK s t em fun u => (match x with
    | .w .u32 w => ifK (Nat.blt (hiW w) 4294967296) (one G s op (.w .u32 (farW w)) u m fun c => lits (fun k ih => one G s op (.n .u32 k) u m fun c' => ifK (Nat.beq c' c) ih false) [0, 1, 2, 3, 4, 5, 6, 7, 8, 9, 10] (K (.n .i64 c) t m)) false
    | x => one G s op x u m fun c => K (.n .i64 c) t m)
  | _ => false
theorem lits_ok {ρ : Nat → Nat} {G : List Asm} (hG : ∀ a ∈ G, a.ok ρ) {s : List SV} {op : SV} {u : HT} {m c : Nat} {K : Bool} : ∀ {l : List Nat}, lits (fun k ih => one G s op (.n .u32 k) u m fun c' => ifK (Nat.beq c' c) ih false) l K = true →
    K = true ∧ ∀ a ∈ l, ∃ k H', evCall Tryz.prog T0 k 144 #[.agg ⟨instL ρ s⟩, .agg #[op.inst ρ, .int .u32 (.ofNat a)]] (instH ρ u m) = some (.int .i64 (.ofNat c), H') := by
  intro l
  induction l with
  | nil => intro h; exact ⟨h, fun a ha => by cases ha⟩
  | cons b l ih =>
    intro h
    obtain ⟨c', k, H', h1, h2⟩ := one_ok hG h
    obtain ⟨h3, h4⟩ := ifF_true h2
    obtain rfl := Nat.eq_of_beq_eq_true h3
    obtain ⟨h5, h6⟩ := ih h4
    refine ⟨h5, fun a ha => ?_⟩
    rcases List.mem_cons.1 ha with rfl | ha
    · exact ⟨k, H', h1⟩
    · exact h6 a ha
theorem chk_ok {ρ : Nat → Nat} {T : Tab} (ho : ∀ f l, T.orc f l = none) (hf : T.fn 144 = none) (hm : ∀ l H, T.mor 144 l H = same sp144 l H) {G : List Asm} (hG : ∀ a ∈ G, a.ok ρ) (args : List SV) (t : HT) (m : Nat) (K : KV) (R : Value → Heap → Prop) (h : chk G args t m K = true) (hR : ∀ v t' m', K v t' m' = true → R (v.inst ρ) (instH ρ t' m')) : ACall Tryz.prog T 144 ⟨instL ρ args⟩ (instH ρ t m) R := by
  have fin : ∀ {s : List SV} {op x : SV} {u : HT} {k c : Nat} {H' : Heap}, instH ρ u m = subH (instL ρ s) (instH ρ t m) → evCall Tryz.prog T0 k 144 #[.agg ⟨instL ρ s⟩, .agg #[op.inst ρ, x.inst ρ]] (instH ρ u m) = some (.int .i64 (.ofNat c), H') → K (.n .i64 c) t m = true →
      ACall Tryz.prog T 144 ⟨instL ρ [.ag s, .ag [op, x]]⟩ (instH ρ t m) R := fun {s op x u k c H'} hu he hk => by
    rw [hu] at he
    exact acall_mor (v := .int .i64 (.ofNat c)) (ho _ _) hf ((hm _ _).trans (same_of (sp144_of rfl he))) (hR (.n .i64 c) t m hk)
  unfold chk at h
  split at h
  · rename_i s op x
    obtain ⟨u, h1, h2⟩ := subK_true h
    have hu := sub_inst (t := t) (u := u) (l := s) ρ m fun b hb => h2 ρ b hb
    split at h1
    · rename_i w
      obtain ⟨h3, h1⟩ := ifF_true h1
      have hlt : evW ρ w < 4294967296 := Nat.lt_of_le_of_lt (boundsW ρ w).2 (Nat.le_of_ble_eq_true h3)
      obtain ⟨c, k, H', h4, h5⟩ := one_ok hG h1
      obtain ⟨h6, h7⟩ := lits_ok hG h5
      by_cases hw : 11 ≤ evW ρ w
      · refine fin (x := .w .u32 w) hu (k := k) (c := c) (H' := H') ?_ h6
        rw [show SV.inst ρ (.w .u32 w) = SV.inst ρ (.w .u32 (farW w)) by simp only [SV.inst, farW_ev hw hlt]]
        exact h4
      · obtain ⟨k', H2, h8⟩ := h7 (evW ρ w) (by
          have : evW ρ w < 11 := by omega
          generalize evW ρ w = a at this
          match a, this with
          | 0, _ | 1, _ | 2, _ | 3, _ | 4, _ | 5, _ | 6, _ | 7, _ | 8, _ | 9, _ | 10, _ => decide)
        exact fin (x := .w .u32 w) hu (k := k') (c := c) (H' := H2) h8 h6
    · obtain ⟨c, k, H', h4, h5⟩ := one_ok hG h1
      exact fin hu h4 h5
  · cases h
/-- What numbers that are not known come to, within bounds: which number, from, to, what. -/
abbrev WLs := List (Nat × Nat × Nat × Nat)
def WOk (ρ : Nat → Nat) (WL : WLs) : Prop := ∀ p ∈ WL, inB (zz (ρ p.1)) (.ofNat p.2.1) (.ofNat p.2.2.1) = true ∧ (Int.ofNat p.2.1) + zz (ρ p.1) % ((Int.ofNat p.2.2.1) - (Int.ofNat p.2.1) + 1) = Int.ofNat p.2.2.2
noncomputable def findW (WL : WLs) (i lo hi : Nat) : Option Nat := List.rec (motive := fun _ => Option Nat) none (fun p _ ih => bif Nat.beq p.1 i && (Nat.beq p.2.1 lo && Nat.beq p.2.2.1 hi) then some p.2.2.2 else ih) WL
theorem findW_mem {i lo hi r : Nat} : ∀ {WL : WLs}, findW WL i lo hi = some r → (i, lo, hi, r) ∈ WL := by
  intro WL
  induction WL with
  | nil => intro h; cases h
  | cons p WL ih =>
    intro h
    have h : (bif Nat.beq p.1 i && (Nat.beq p.2.1 lo && Nat.beq p.2.2.1 hi) then some p.2.2.2 else findW WL i lo hi) = some r := h
    cases hb : Nat.beq p.1 i && (Nat.beq p.2.1 lo && Nat.beq p.2.2.1 hi) <;> rw [hb] at h
    · exact List.mem_cons_of_mem _ (ih h)
    · cases h
      simp only [Bool.and_eq_true] at hb
      obtain ⟨a, b, c, d⟩ := p
      rw [← Nat.eq_of_beq_eq_true hb.1, ← Nat.eq_of_beq_eq_true hb.2.1, ← Nat.eq_of_beq_eq_true hb.2.2]
      exact List.mem_cons_self
noncomputable def wit (WL : WLs) (args : List SV) (t : HT) (m : Nat) (K : KV) : Bool := match args with
  | [.y .i64 i, .n .i64 lo, .n .i64 hi] => bnd (findW WL i lo hi) fun r => K (.n .i64 r) t m
  | [.n .i64 a, .n .i64 lo, .n .i64 hi] => ifK (Nat.ble a 9223372036854775807) (ifK (Nat.ble lo hi) (ifK (Nat.ble hi 1099511627776) (fN (Nat.add lo (Nat.mod a (Nat.succ (Nat.sub hi lo)))) fun r => K (.n .i64 r) t m) false) false) false
  | _ => false
theorem wit_ok {ρ : Nat → Nat} {T : Tab} (ho : ∀ f l, T.orc f l = none) (hf : T.fn 15 = none) (hm : ∀ l H, T.mor 15 l H = same sp15 l H) {WL : WLs} (hW : WOk ρ WL) (args : List SV) (t : HT) (m : Nat) (K : KV) (R : Value → Heap → Prop) (h : wit WL args t m K = true) (hR : ∀ v t' m', K v t' m' = true → R (v.inst ρ) (instH ρ t' m')) : ACall Tryz.prog T 15 ⟨instL ρ args⟩ (instH ρ t m) R := by
  have fin : ∀ {n lo hi : Int} {r : Nat}, inB n lo hi = true → lo + n % (hi - lo + 1) = Int.ofNat r → K (.n .i64 r) t m = true → ACall Tryz.prog T 15 #[.int .i64 n, .int .i64 lo, .int .i64 hi] (instH ρ t m) R := fun {n lo hi r} h1 h2 h3 => by
    refine acall_mor (v := .int .i64 (Int.ofNat r)) (ho _ _) hf ((hm _ _).trans (same_of ?_)) (hR (.n .i64 r) t m h3)
    show sp15 [.int .i64 n, .int .i64 lo, .int .i64 hi] (instH ρ t m) = _
    unfold sp15
    simp only [h1, cond_true, h2]
  unfold wit at h
  split at h
  · rename_i i lo hi
    obtain ⟨r, h1, h⟩ := bnd_true (r := findW WL i lo hi) h
    obtain ⟨h2, h3⟩ := hW _ (findW_mem h1)
    exact fin h2 h3 h
  · rename_i a lo hi
    obtain ⟨h1, h⟩ := ifF_true h
    obtain ⟨h2, h⟩ := ifF_true h
    obtain ⟨h3, h⟩ := ifF_true h
    rw [fN_eq] at h
    have h1 := Nat.le_of_ble_eq_true h1
    have h2 := Nat.le_of_ble_eq_true h2
    have h3 := Nat.le_of_ble_eq_true h3
    refine fin ?_ ?_ h
    · unfold inB
      simp only [Bool.and_eq_true, decide_eq_true_eq, Int.ofNat_eq_natCast]
      omega
    · have e : (Int.ofNat hi - Int.ofNat lo + 1) = Int.ofNat (Nat.succ (Nat.sub hi lo)) := by
        show ((hi : Nat) : Int) - ((lo : Nat) : Int) + 1 = ((hi - lo + 1 : Nat) : Int)
        omega
      rw [e]; rfl
  · cases h
/-- The program; step.Check and innkeeperbook.Within are told in short. -/
noncomputable def EG1 (G : List Asm) (WL : WLs) : Env := ⟨Tryz.prog, T1, ztT, G, fun g => Bool.rec (Bool.rec none (some (wit WL)) (Nat.beq g 15)) (some (chk G)) (Nat.beq g 144)⟩
theorem EG1_ok {ρ : Nat → Nat} {G : List Asm} {WL : WLs} (hG : ∀ a ∈ G, a.ok ρ) (hW : WOk ρ WL) : EnvOk ρ (EG1 G WL) where
  zt := ztT_ok
  G := hG
  orc := fun _ _ => rfl
  mac := fun g h hm => by
    have hm : (Bool.rec (Bool.rec none (some (wit WL)) (Nat.beq g 15)) (some (chk G)) (Nat.beq g 144) : Option (List SV → HT → Nat → KV → Bool)) = some h := hm
    cases hb : Nat.beq g 144
    · rw [hb] at hm
      cases hc : Nat.beq g 15
      · rw [hc] at hm; cases hm
      · rw [hc] at hm; cases hm
        obtain rfl := Nat.eq_of_beq_eq_true hc
        exact fun args t m K R hk hR => wit_ok (fun _ _ => rfl) rfl (fun _ _ => rfl) hW args t m K R hk hR
    · rw [hb] at hm; cases hm
      obtain rfl := Nat.eq_of_beq_eq_true hb
      exact fun args t m K R hk hR => chk_ok (fun _ _ => rfl) rfl (fun _ _ => rfl) hG args t m K R hk hR
/-- A law's run: it answers true. -/
noncomputable def lawRun (G : List Asm) (WL : WLs) (f : FuncId) (args : List SV) : Bool := callN (EG1 G WL) 100 f args em 0 fun v _ _ => isT v
theorem y_inst {ρ : Nat → Nat} {i : Nat} {k : IntKind} {a : Int} (h : zz (ρ i) = a) : (SV.y k i).inst ρ = .int k a := by
  rw [← h]; rfl
theorem law_calls {ρ : Nat → Nat} {G : List Asm} (hG : ∀ a ∈ G, a.ok ρ) {WL : WLs} (hW : WOk ρ WL) {f : FuncId} {args : List SV} {vs : Array Value} (h : lawRun G WL f args = tt) (hv : (⟨instL ρ args⟩ : Array Value) = vs) (hc : ∀ x ∈ vs.toList, closed x = true) (W : World) :
    Calls Tryz.prog f vs W fun e w' => e = .returned (.bool true) ∧ Below W.heap.size W w' := by
  letI : Bs := ⟨W, W.heap.size⟩
  have hw : OnBs W := @OnBs.mk ⟨W, W.heap.size⟩ W (Nat.le_refl _) (fun _ _ => rfl)
  subst hv
  have ha : ACall Tryz.prog T1 f ⟨instL ρ args⟩ (instH ρ em 0) fun r _ => r = .bool true := run_call (EG1_ok hG hW) 100 h fun v t' m' hk => isT_inst hk
  have hwf : HWf (instH ρ em 0) := fun b hb => by rw [em_get] at hb; simp at hb
  have hr : Rep Tryz.prog (fun _ => none) (instH ρ em 0) W := ⟨⟨fun b L hb => (by cases hb), fun b L o hb => (by cases hb), fun b1 b2 L1 L2 hb => (by cases hb)⟩, ⟨hw, fun b L hb => (by cases hb)⟩⟩
  refine (ha.calls progOk1 hwf hr (args' := ⟨instL ρ args⟩) ⟨rfl, fun i x hx => ⟨x, hx, VR.of_closed (hc x (List.mem_of_getElem? hx))⟩⟩).mono fun e w' hp => ?_
  obtain ⟨v1, H', rfl, v', m', rfl, hv', _, hf⟩ := hp
  rw [hv'.plain_eq rfl]
  exact ⟨rfl, hf.os, hf.tape, hf.output, hf.size, fun c hc => hf.keep c hc (by rintro ⟨b, L, hb, _⟩; cases hb)⟩
end
/-! From a call to the row -/
def laid1 : List (String × DataW Unit) := [("math/bits.deBruijn32tab", Rows.laid_math_bits_deBruijn32tab)]
theorem own : ownKnob Tryz.prog.godebug = none := by kernel_rfl
theorem door_met (os : Os) (args : Array Value) : laidMetH Tryz.prog laid1 ((World.doorLaid Tryz.prog 400 os).forCall (fun _ _ => 0) ⟨#[], args, []⟩).memory := by
  rw [MakeChecks.laidMetH_plain _ _ _ (by kernel_rfl)]
  exact laidMet_of_run' 8 (by kernel_rfl) (by kernel_rfl)
section
variable {H : Type} {enc : TypeId × Value → H} {P : Program}
theorem post_of_below {f : Func} {s : ChangeSpec} {apart fresh handsOn again : Bool} {W W' : World} {args : Array Value} {v : Value} {ds gs : List (DataW H)} {before pa pv : List MemPlace}
    (hW : DataW.Whole enc P f.params.toList s.vars apart W args.toList ds gs before)
    (hres : ∀ (b : Nat) (sp : Nat → Bool) (hd : Bool), DataW.TrodAll enc P W' b sp hd f.resultTypes.toList (v.resultList f.resultTypes.size) (s.fn H (ds ++ gs)).results [])
    (hargs : ∀ sp : Nat → Bool, (∀ p ∈ before, sp p.block = true) → DataW.TrodAll enc P W' 0 sp true f.params.toList args.toList (s.fn H (ds ++ gs)).args pa)
    (hvars : ∀ sp : Nat → Bool, (∀ p ∈ before, sp p.block = true) → DataW.TrodVars enc P W' sp s.vars (s.fn H (ds ++ gs)).vars pv)
    (hps : before = pa ++ pv) (hb : Below W.heap.size W W')
    (hok : ∀ (j : Nat) (t : TypeId) (r : Value), f.resultTypes[j]? = some t → (v.resultList f.resultTypes.size)[j]? = some r → Value.okWide P W' .any 0 t r) :
    s.post enc P f apart fresh handsOn again W args v W' := by
  have hlt : ∀ p ∈ before, p.block < W.heap.size := fun p hp => hW.lt p hp
  have hold : ∀ p ∈ before, (fun b => decide (b < W.heap.size)) p.block = true := fun p hp => by simpa using hlt p hp
  refine ⟨ds, gs, before, [], pa, pv, hW, hres _ _ _, hargs _ hold, hvars _ hold, World.keptBut_mono (fun p hp => ⟨hp, ?_⟩) (hb.frame (· ∈ before)), fun _ => ?_⟩
  · rw [hps, List.mem_append] at hp
    exact Or.inr hp
  · obtain ⟨_, _, _, _, _, hz, hn⟩ := hW
    refine ⟨hok, _, _, ([] ++ pa) ++ pv, ⟨[] ++ pa, pv, trodAll_append (hargs _ (fun _ _ => rfl)) (hres _ _ _), hvars _ (fun _ _ => rfl), rfl, ?_, ?_⟩, ?_⟩
    · intro b off hp
      have hin : MemPlace.cell b off ∈ before := by rw [hps]; simpa using hp
      rw [hb.frozen (hlt _ hin)]
      exact hz b off hin
    · intro ha
      have := hn ha
      rw [hps] at this
      simpa using this
    · intro p hp _
      rw [hps]
      simpa using hp
end
end Tp
end Go.Proofs.YthmcpmdohmfeiaaGreatDoor
