/- append, copy, conversions, what is left to the model's own run, and calls. -/
import Derived.Test.YthmcpmdohmfeiaaGreatDoorEa1
import Derived.Laws.StructEq
import Derived.ChangeKeysEq
import Derived.MapKept
import Derived.WideKeyRuns
import Derived.Maps.RangeRun
namespace Go.Ev
open Go
set_option linter.unusedVariables false
set_option linter.unusedSimpArgs false
/-- What is appended or copied, in memory. -/
structure SrcOk (m : Map) (w : World) (size n : Nat) (x' : Value) (new new' : List Value) : Prop where
  len : Builtin.lenOf x' = Sem.pure n
  cells : ∀ (P : Program) (k : Nat), (Builtin.firstCells size n x').run P { w with drawn := k } = .ok new'.toArray { w with drawn := k }
  vrs : VRs m new new'
  newLen : new.length = n * size
  holds : 0 < n → ∀ b l c, x' = .slice (some b) l c → Room.holdsV w b (n * size) = true
theorem holdsV_ok {w : World} {c : Nat} {cs : Array Value} {e : TypeId} {fz : Nat × Nat} (h : w.heap[c]? = some (.cells cs e fz)) (o k : Nat) (hk : o + k ≤ cs.size) : Room.holdsV w ⟨c, o, none⟩ k = true := by
  simp [Room.holdsV, World.shape?, h, hk]
theorem cells_take {P : Program} {m : Map} {o : Ob} {L : Loc} {w : World} (h : CelOk P m o L w) (off n : Nat) (hn : ((o.cells.drop off).take n).length = n) :
    ∃ l, VRs m ((o.cells.drop off).take n) l ∧ l.length = n ∧ (∀ (i : Nat) (y : Value), l[i]? = some y → w.cell? ⟨L.c, L.o + off + i, none⟩ = some y) ∧ (0 < n → off + n ≤ o.cells.length) := by
  obtain ⟨l, hl, hc⟩ := h.row
  have hv := (hl.drop off).take n
  refine ⟨(l.drop off).take n, hv, by rw [← hv.1]; exact hn, fun i y hy => ?_, fun h0 => by simp at hn; omega⟩
  rw [List.getElem?_take] at hy
  split at hy
  · rw [List.getElem?_drop] at hy
    have := hc _ _ hy
    rwa [← Nat.add_assoc] at this
  · cases hy
theorem cell_drew (w : World) (k : Nat) (a : Addr) : World.cell? { w with drawn := k } a = w.cell? a := rfl
theorem asrc_sound [Bs] {P : Program} {m : Map} {H : Heap} {w : World} {size n : Nat} {x x' : Value} {new : List Value} (hs : 0 < size) (h : asrc size x H = some (n, new)) (hr : Rep P m H w) (hx : VR m x x') :
    ∃ new', SrcOk m w size n x' new new' := by
  unfold asrc at h
  split at h
  · rename_i n0 c
    cases hb : n0.beq 0
    · rw [hb] at h; cases h
    · rw [hb] at h
      cases h
      have : n0 = 0 := by simpa using hb
      subst this
      rw [hx.plain_eq rfl]
      exact ⟨[], rfl, fun P k => rfl, VRs.nil, by simp, fun _ b l c h => by cases h⟩
  · rename_i b off n0 c
    split at h
    · rename_i o ho
      cases hb : ((o.cells.drop off).take (n0 * size)).length.beq (n0 * size)
      · simp only [hb, cond_false] at h; cases h
      · simp only [hb, cond_true] at h
        cases h
        cases hx with
        | same h => simp [plain] at h
        | slice hm hmp hc =>
          rename_i q c' L
          have hlen : ((o.cells.drop off).take (n * size)).length = n * size := by simpa using hb
          obtain ⟨l, h1, h2, h3, h4⟩ := cells_take ((hr.blk b L o hm ho).cel hmp) off (n * size) hlen
          by_cases h0 : n = 0
          · subst h0
            have hl : l = [] := List.eq_nil_of_length_eq_zero (by simpa using h2)
            subst hl
            refine ⟨[], rfl, fun P k => ?_, h1, by simp, fun h0 => absurd h0 (by omega)⟩
            simp [Builtin.firstCells, loadCells, loadCellsFrom]
          · have hq : q = L.o + off := by
              rcases hc with ⟨_, _, h⟩ | ⟨_, _, _, h⟩
              · exact h
              · omega
            subst hq
            have h5 := h4 (Nat.mul_pos (by omega) hs)
            refine ⟨l, rfl, fun P k => ?_, h1, hlen, fun _ b' l' c'' he => ?_⟩
            · have := run_firstCells_some (P := P) { w with drawn := k } size n ⟨L.c, L.o + off, none⟩ n c' l h2 (fun j y hy => by rw [Addr.add_mid]; exact h3 j y hy)
              simpa using this
            · cases he
              obtain ⟨cs, e, fz, k1, k2, _⟩ := (hr.blk b L o hm ho).cel hmp
              exact holdsV_ok k1 _ _ (by omega)
    · cases h
  · rename_i s
    cases hb : size.beq 1
    · rw [hb] at h; cases h
    · rw [hb] at h
      cases h
      have : size = 1 := by simpa using hb
      subst this
      rw [hx.plain_eq rfl]
      refine ⟨_, rfl, fun P k => ?_, VRs.of_closed (l := s.data.toList.map fun b => .int .u8 b.toNat) (by simp only [List.all_map, List.all_eq_true]; intro b _; rfl), by simp, fun _ b l c h => by cases h⟩
      have : s.extract 0 s.size = s := by apply ByteArray.ext; simp [ByteArray.data_extract]
      simp [Builtin.firstCells, this]
      apply Array.ext'
      simp
  · cases h
theorem mayShare_no {P : Program} (w : World) (size sLen n : Nat) (base : Option Addr) (x : Value) (hb : ∀ a, base = some a → Room.holdsV w a (sLen * size) = true ∧ w.frozen? (a.add (sLen / 2 * size)) = false)
    (hx : ∀ b l c, x = .slice (some b) l c → Room.holdsV w b (n * size) = true ∧ ∀ a, base = some a → a.block ≠ b.block) :
    (Builtin.mayShare size sLen n base x).runT P w #[] = (.ok false w, #[]) := by
  cases base with
  | none =>
    cases x with
    | slice b l c =>
      cases b with
      | none => simp [-Sem.runT_eq, Builtin.mayShare, Room.Sem.bind_def, Room.Sem.runT_bind, Room.Sem.runT_pure']
      | some b =>
        obtain ⟨h1, _⟩ := hx b l c rfl
        simp [-Sem.runT_eq, Builtin.mayShare, Room.Sem.bind_def, Room.Sem.runT_bind, Room.runT_holdsCells', Room.Sem.runT_pure', h1]
    | _ => simp [-Sem.runT_eq, Builtin.mayShare, Room.Sem.bind_def, Room.Sem.runT_bind, Room.Sem.runT_pure']
  | some a =>
    obtain ⟨h1, h2⟩ := hb a rfl
    cases x with
    | slice b l c =>
      cases b with
      | none => simp [-Sem.runT_eq, Builtin.mayShare, Room.Sem.bind_def, frozen, Sem.bind, Sem.runT, Room.Sem.runT_bind, Room.runT_holdsCells', Room.Sem.runT_pure', h1, h2]
      | some b =>
        obtain ⟨h3, h4⟩ := hx b l c rfl
        have h5 := h4 a rfl
        simp [-Sem.runT_eq, Builtin.mayShare, Room.Sem.bind_def, frozen, Sem.bind, Sem.runT, Room.Sem.runT_bind, Room.runT_holdsCells', Room.Sem.runT_pure', h1, h2, h3, h5]
    | _ => simp [-Sem.runT_eq, Builtin.mayShare, Room.Sem.bind_def, frozen, Sem.bind, Sem.runT, Room.Sem.runT_bind, Room.runT_holdsCells', Room.Sem.runT_pure', h1, h2]
/-- An append that has no room. -/
theorem grow_run {P : Program} {m : Map} {w : World} {t tx ty e : TypeId} {d : TypeDesc} {i : TypeInfo} {z : Value} (ht : P.underlying t = some (.slice e)) (htx : P.underlying tx = some d) (hd : isIntD d = false)
    (hi : P.info? e = some i) (hz : i.zero = some z) (hb0 : 0 < i.bytes) {base : Option Addr} {sLen sCap n : Nat} {x' : Value} {old' new new' : List Value} (hs : SrcOk m w i.size n x' new new') (hn : 0 < n) (hg : sCap < sLen + n)
    (hold : ∀ k : Nat, (Builtin.firstCells i.size sLen (.slice base sLen sCap)).run P { w with drawn := k } = .ok old'.toArray { w with drawn := k })
    (hB : (sLen + n) * i.bytes ≤ 140737488355328) :
    (∃ cap k, sLen + n ≤ cap ∧ (Builtin.append_ #[t, tx] ty #[.slice base sLen sCap, x']).run P w =
      .ok (.slice (some ⟨w.heap.size, 0, none⟩) (sLen + n) cap) (({ w with drawn := k } : World).alloc (.cells (old'.toArray ++ new'.toArray ++ Builtin.zeroCells z.cells (cap - (sLen + n))) e))) := by
  have hdk : ∀ k, d ≠ .int k := fun k e => by subst e; simp [isIntD] at hd
  have hzz : (match d with | .int _ => true | _ => false) = false := by cases d <;> first | rfl | exact absurd rfl (hdk _)
  have hp : Builtin.nextslicecap (sLen + n) sCap * i.bytes ≤ 281474976710656 := growslice_fits (by omega) hB
  · have hnb : (sLen + n) * i.bytes ≤ 281474976710656 := Nat.le_trans (Nat.mul_le_mul_right _ (le_nextslicecap (by omega))) hp
    have h63 : ((sLen + n : Nat) : Int) ≤ 9223372036854775807 := by
      have : sLen + n ≤ (sLen + n) * i.bytes := Nat.le_mul_of_pos_right _ hb0
      omega
    have hroom : ¬ (sLen + n ≤ sCap) := by omega
    have h63' : ¬ (9223372036854775807 < ((sLen : Int) + (n : Int))) := by omega
    have h48' : ¬ (281474976710656 < Builtin.nextslicecap (sLen + n) sCap * i.bytes) := by omega
    have hq : (Question.appendCap (sLen + n) sCap e).forced = false := rfl
    refine ⟨grownCap w (sLen + n) sCap e, w.drawn + 1, grownCap_ge w _ _ _, ?_⟩
    have h1 : (Builtin.firstCells i.size sLen (.slice base sLen sCap)).run P w.drew = .ok old'.toArray w.drew := hold (w.drawn + 1)
    have h2 : (Builtin.firstCells i.size n x').run P w.drew = .ok new'.toArray w.drew := hs.cells P (w.drawn + 1)
    simp [Builtin.append_, run_underlying ht, run_underlying htx, hzz, sizeOf, typeInfo, hi, hs.len, hroom, h63', h48', hq, h1, h2, zeroValue, hz, newRow, grownCap]
    congr 2
    apply Array.ext'
    simp
/-- An append that has room. -/
theorem room_run {P : Program} {m : Map} {w w' : World} {t tx ty e : TypeId} {d : TypeDesc} {i : TypeInfo} (ht : P.underlying t = some (.slice e)) (htx : P.underlying tx = some d) (hd : isIntD d = false)
    (hi : P.info? e = some i) {a : Addr} {sLen sCap n : Nat} {x' : Value} {new new' : List Value} (hs : SrcOk m w i.size n x' new new') (hroom : sLen + n ≤ sCap)
    (hst : (storeCells (a.add (sLen * i.size)) new').run P w = .ok () w') :
    (Builtin.append_ #[t, tx] ty #[.slice (some a) sLen sCap, x']).run P w = .ok (.slice (some a) (sLen + n) sCap) w' := by
  have hdk : ∀ k, d ≠ .int k := fun k e => by subst e; simp [isIntD] at hd
  have hzz : (match d with | .int _ => true | _ => false) = false := by cases d <;> first | rfl | exact absurd rfl (hdk _)
  have h2 : (Builtin.firstCells i.size n x').run P w = .ok new'.toArray w := hs.cells P w.drawn
  simp [Builtin.append_, run_underlying ht, run_underlying htx, hzz, sizeOf, typeInfo, hi, hs.len, hroom, h2, hst]
theorem nil_run {P : Program} {m : Map} {w : World} {t tx ty e : TypeId} {d : TypeDesc} {i : TypeInfo} (ht : P.underlying t = some (.slice e)) (htx : P.underlying tx = some d) (hd : isIntD d = false)
    (hi : P.info? e = some i) {x' : Value} {new new' : List Value} (hs : SrcOk m w i.size 0 x' new new') :
    (Builtin.append_ #[t, tx] ty #[.slice none 0 0, x']).run P w = .ok (.slice none 0 0) w := by
  have hdk : ∀ k, d ≠ .int k := fun k e => by subst e; simp [isIntD] at hd
  have hzz : (match d with | .int _ => true | _ => false) = false := by cases d <;> first | rfl | exact absurd rfl (hdk _)
  have h2 : (Builtin.firstCells i.size 0 x').run P w = .ok new'.toArray w := hs.cells P w.drawn
  simp [Builtin.append_, run_underlying ht, run_underlying htx, hzz, sizeOf, typeInfo, hi, hs.len, h2]
/-- Where the grown row stands. -/
theorem grown_ok [Bs] {P : Program} {m : Map} {H : Heap} {w : World} (hr : Rep P m H w) {e : TypeId} {i : TypeInfo} {z : Value} (hi : P.info? e = some i) (hz : z.cells.size = i.size) {old old' new new' : List Value} {len n cap k : Nat}
    (ho : VRs m old old') (hn : VRs m new new') (hol : old.length = len * i.size) (hnl : new.length = n * i.size) (hc : len + n ≤ cap) :
    ∃ m', VR m' (.slice (some ⟨H.n, 0, none⟩) (len + n) (unk + i.size)) (.slice (some ⟨w.heap.size, 0, none⟩) (len + n) cap) ∧
      Rep P m' (H.push ⟨old ++ new, e, false⟩) (({ w with drawn := k } : World).alloc (.cells (old'.toArray ++ new'.toArray ++ Builtin.zeroCells z.cells (cap - (len + n))) e)) ∧
      Fr m H w m' (H.push ⟨old ++ new, e, false⟩) (({ w with drawn := k } : World).alloc (.cells (old'.toArray ++ new'.toArray ++ Builtin.zeroCells z.cells (cap - (len + n))) e)) := by
  have hsz : (old'.toArray ++ new'.toArray ++ Builtin.zeroCells z.cells (cap - (len + n))).size = cap * i.size := by
    simp only [Array.size_append, List.size_toArray, size_zeroCells, hz, ← ho.1, ← hn.1, hol, hnl, ← Nat.add_mul]
    congr 1; omega
  have hv := ho.append hn
  have hp := push_sound (hr.drew k) ⟨old ++ new, e, false⟩ (old'.toArray ++ new'.toArray ++ Builtin.zeroCells z.cells (cap - (len + n))) rfl i hi
    (by have := hv.1; simp only [Array.size_append, List.size_toArray, List.length_append] at this ⊢; omega) (fun j x hx => by
      obtain ⟨y, hy, hvy⟩ := hv.2 j x hx
      refine ⟨y, ?_, hvy⟩
      have hj := (List.getElem?_eq_some_iff.1 hy).1
      rw [Array.getElem?_append_left (by simpa using hj)]
      simpa using hy)
  refine ⟨_, .slice (Map.add_self _ _ _) rfl (.inr ⟨rfl, hc, ?_, .inr rfl⟩), hp.1, hp.2.drew k⟩
  simp only [Nat.zero_add]
  rw [hsz]
  exact Nat.le_refl _
/-- The old block is asked for no more. -/
theorem Rep0.kill {P : Program} {m : Map} {H : Heap} {w : World} (hr : Rep0 P m H w) (b : Nat) (hb : m b ≠ none) : Rep0 P m (H.kill b) w ∧ Fr m H w m (H.kill b) w := by
  have hg : ∀ x o, (H.kill b).get x = some o → x ≠ b ∧ H.get x = some o := fun x o h => by
    rw [Heap.get_kill] at h
    split at h
    · cases h
    · exact ⟨‹_›, h⟩
  have hl : ∀ x, ((H.kill b).get x).isSome → (H.get x).isSome := fun x h => by
    obtain ⟨o, ho⟩ := Option.isSome_iff_exists.1 h
    simp [(hg x o ho).2]
  have hw : ∀ x, (H.kill b).wr x → H.wr x := fun x h => by
    obtain ⟨o, ho, h2⟩ := h
    exact ⟨o, (hg x o ho).2, h2⟩
  exact ⟨⟨hr.dom, fun x L o h h2 => hr.blk x L o h (hg x o h2).2, fun b1 b2 L1 L2 h1 h2 h3 h4 hne => hr.inj b1 b2 L1 L2 h1 h2 (hw _ h3) (hl _ h4) hne⟩,
    ⟨rfl, rfl, rfl, Nat.le_refl _, fun _ _ _ => rfl, Map.le_refl m, Nat.le_refl _, fun _ _ h => .inl h, fun _ _ h h2 => .inl ⟨h, hl _ h2⟩, fun _ _ h => hw _ h, fun _ _ h => hl _ h, fun x _ h => (by
      have hne : x ≠ b := fun e => by subst e; exact hb h
      rw [Heap.get_kill, if_neg hne])⟩⟩
theorem Rep.kill [Bs] {P : Program} {m : Map} {H : Heap} {w : World} (hr : Rep P m H w) (b : Nat) (hb : m b ≠ none) : Rep P m (H.kill b) w ∧ Fr m H w m (H.kill b) w := by
  obtain ⟨h1, h2⟩ := hr.toRep0.kill b hb
  exact ⟨h1.full h2 hr, h2⟩
theorem firstCells_ok {P : Program} {w : World} {size n : Nat} {a : Addr} {c : Nat} {l : List Value} (hl : l.length = n * size) (h : ∀ (i : Nat) (y : Value), l[i]? = some y → w.cell? (a.add i) = some y) (k : Nat) :
    (Builtin.firstCells size n (.slice (some a) n c)).run P { w with drawn := k } = .ok l.toArray { w with drawn := k } :=
  run_firstCells_some (P := P) { w with drawn := k } size n a n c l hl h
theorem frozen_no {w : World} {c : Nat} {cs : Array Value} {e : TypeId} (h : w.heap[c]? = some (.cells cs e (0, 0))) (o k : Nat) : w.frozen? ((⟨c, o, none⟩ : Addr).add k) = false := by
  rw [Addr.add_mid]; simp [World.frozen?, h]
theorem asrc_alive {size n : Nat} {b off n' c : Nat} {H : Heap} {new : List Value} (h : asrc size (.slice (some ⟨b, off, none⟩) n' c) H = some (n, new)) : (H.get b).isSome := by
  unfold asrc at h
  simp only at h
  split at h
  · rename_i o ho; simp [ho]
  · cases h
theorem old_ok {P : Program} {m : Map} {o : Ob} {L : Loc} {w : World} (h : CelOk P m o L w) {off len size : Nat} (hle : off + len * size ≤ o.cells.length) :
    ∃ l, VRs m ((o.cells.drop off).take (len * size)) l ∧ l.length = len * size ∧ (∀ (i : Nat) (y : Value), l[i]? = some y → w.cell? ⟨L.c, L.o + off + i, none⟩ = some y) := by
  obtain ⟨l, h1, h2, h3, _⟩ := cells_take h off (len * size) (by simp; omega)
  exact ⟨l, h1, h2, h3⟩
theorem aappend_sound [Bs] {P : Program} {T : Tab} (hT : TabOk P T) {m : Map} {H H' : Heap} {w : World} {st xt : TypeId} {s x s' x' v : Value} (h : aappend T st xt s x H = some (v, H')) (hr : Rep P m H w) (hs : VR m s s') (hx : VR m x x') (ty : TypeId) :
    ∃ v' w' m', (Builtin.append_ #[st, xt] ty #[s', x']).run P w = .ok v' w' ∧ VR m' v v' ∧ Rep P m' H' w' ∧ Fr m H w m' H' w' := by
  unfold aappend at h
  split at h
  · rename_i e xd base len cap hst hxt
    cases hint : isIntD xd
    · rw [hint] at h
      simp only [cond_false] at h
      split at h
      · rename_i s0 by_ z hn hb hz
        obtain ⟨i, h1, h2, h3, h4⟩ := hT.zero e z hz
        obtain ⟨i', h5, h6⟩ := hT.size e _ hn
        rw [h1] at h5; cases h5
        obtain ⟨i', h7, h8⟩ := hT.bytes e _ hb
        rw [h1] at h7; cases h7
        have h6' : s0 + 1 = i.size := h6.symm
        rw [h6'] at h
        have hsz : 0 < i.size := by omega
        have hby : 0 < i.bytes := by omega
        have hut := hT.under _ _ hst
        have hux := hT.under _ _ hxt
        split at h
        · rename_i n new hsrc
          obtain ⟨new', hS⟩ := asrc_sound hsz hsrc hr hx
          split at h
          · -- nil
            cases hc : (len.beq 0 && cap.beq 0)
            · rw [hc] at h; cases h
            rw [hc] at h
            simp only [cond_true] at h
            simp only [Bool.and_eq_true, Nat.beq_eq] at hc
            obtain ⟨rfl, rfl⟩ := hc
            rw [hs.plain_eq rfl]
            cases hn0 : n.beq 0
            · rw [hn0] at h
              simp only [cond_false] at h
              cases hbb : (n * (by_ + 1)).ble 140737488355328
              · rw [hbb] at h; cases h
              rw [hbb] at h
              cases h
              have hn' : 0 < n := by
                have : ¬ n = 0 := fun e => by rw [e] at hn0; cases hn0
                omega
              have hB : n * i.bytes ≤ 140737488355328 := by rw [h8]; exact Nat.le_of_ble_eq_true hbb
              obtain ⟨c, k, hc, hrun⟩ := grow_run (P := P) (ty := ty) (old' := []) (base := none) (sLen := 0) (sCap := 0) hut hux hint h1 h2 hby hS hn' (by omega) (fun k => by simp [Builtin.firstCells]) (by rw [Nat.zero_add]; exact hB)
              · obtain ⟨m', g1, g2, g3⟩ := grown_ok (k := k) hr h1 h3 VRs.nil hS.vrs (len := 0) (by simp) hS.newLen hc
                simp only [List.nil_append, Nat.zero_add] at g1 g2 g3 hrun
                exact ⟨_, _, m', hrun, g1, g2, g3⟩
            · rw [hn0] at h
              cases h
              have : n = 0 := by simpa using hn0
              subst this
              exact ⟨_, w, m, nil_run (P := P) (ty := ty) hut hux hint h1 hS, .same rfl, hr, Fr.refl _ _ _⟩
          · rename_i b off
            cases hbl : (blockOf x == some b)
            · rw [hbl] at h
              simp only [cond_false] at h
              split at h
              · rename_i o ho
                cases hs with
                | same hp => simp [plain] at hp
                | slice hm hmp hc =>
                  rename_i q cap' L
                  have hblk := (hr.blk b L o hm ho).cel hmp
                  obtain ⟨cs, e', fz, k1, k2, k3, k4, ie, hie, hes⟩ := hblk
                  cases hro : o.ro
                  · rw [hro] at h
                    simp only [cond_false] at h
                    obtain ⟨rfl, rfl, hcsz⟩ := k4 hro
                    cases hun : unk.ble cap
                    · rw [hun] at h
                      simp only [cond_false] at h
                      rcases hc with ⟨_, rfl, rfl⟩ | ⟨rfl, _⟩
                      · cases hz0 : (len.beq 0 && cap'.beq 0 && n.beq 0)
                        · rw [hz0] at h
                          simp only [cond_false] at h
                          cases hrm : (len + n).ble cap'
                          · rw [hrm] at h
                            simp only [cond_false] at h
                            cases hn0 : n.beq 0
                            · rw [hn0] at h
                              simp only [cond_false] at h
                              cases hle : ((off + len * i.size).ble o.cells.length && ((len + n) * (by_ + 1)).ble 140737488355328)
                              · rw [hle] at h; cases h
                              · rw [hle] at h
                                cases h
                                simp only [Bool.and_eq_true, Nat.ble_eq] at hle
                                obtain ⟨hle', hbb⟩ := hle
                                have hB : (len + n) * i.bytes ≤ 140737488355328 := by rw [h8]; exact hbb
                                have hn' : 0 < n := by
                                  have : ¬ n = 0 := fun e => by rw [e] at hn0; cases hn0
                                  omega
                                have hg : cap' < len + n := by
                                  have : ¬ len + n ≤ cap' := fun e => by rw [Nat.ble_eq_true_of_le e] at hrm; cases hrm
                                  omega
                                obtain ⟨l, g1, g2, g3⟩ := old_ok ((hr.blk b L o hm ho).cel hmp) hle'
                                obtain ⟨c, k, hc, hrun⟩ := grow_run (P := P) (ty := ty) (old' := l) (base := some ⟨L.c, L.o + off, none⟩) (sLen := len) (sCap := cap') hut hux hint h1 h2 hby hS hn' hg
                                  (fun k => firstCells_ok g2 (fun j y hy => by rw [Addr.add_mid]; exact g3 j y hy) k) hB
                                · obtain ⟨m', j1, j2, j3⟩ := grown_ok (k := k) hr h1 h3 g1 hS.vrs (len := len) (by rw [g1.1, g2]) hS.newLen hc
                                  exact ⟨_, _, m', hrun, j1, j2, j3⟩
                            · rw [hn0] at h; cases h
                          · rw [hrm] at h
                            simp only [cond_true] at h
                            have hrm' : len + n ≤ cap' := by simpa using hrm
                            split at h
                            · rename_i H2 hput
                              cases h
                              obtain ⟨w', g1, g2, g3⟩ := aput_sound hput hr hm hmp hS.vrs
                              refine ⟨_, w', m, room_run (P := P) (ty := ty) hut hux hint h1 hS hrm' (a := ⟨L.c, L.o + off, none⟩) ?_, .slice hm hmp (.inl ⟨by assumption, rfl, rfl⟩), g2, g3⟩
                              rw [Addr.add_mid, Nat.add_assoc]
                              exact g1
                            · cases h
                        · rw [hz0] at h
                          simp only [cond_true] at h
                          cases he0 : (o.elem.beq e && off.ble o.cells.length)
                          · rw [he0] at h; cases h
                          · rw [he0] at h
                            cases h
                            simp only [Bool.and_eq_true, Nat.beq_eq, Nat.ble_eq] at hz0 he0
                            obtain ⟨⟨rfl, rfl⟩, rfl⟩ := hz0
                            obtain ⟨he1, he2⟩ := he0
                            have hie' : ie = i := by rw [he1, h1] at hie; cases hie; rfl
                            have hnl : new'.length = 0 := by rw [← hS.vrs.1]; simpa using hS.newLen
                            have hnil : new' = [] := List.eq_nil_of_length_eq_zero hnl
                            refine ⟨_, w, m, room_run (P := P) (ty := ty) hut hux hint h1 hS (Nat.le_refl _) (a := ⟨L.c, L.o + off, none⟩) (by rw [hnil]; rfl), ?_, hr, Fr.refl _ _ _⟩
                            exact VR.slice hm hmp (.inr ⟨by rw [← hie', hes], Nat.le_refl _, by omega, .inl rfl⟩)
                      · rw [Nat.ble_eq_true_of_le (Nat.le_add_right _ _)] at hun; cases hun
                    · rw [hun] at h
                      simp only [cond_true] at h
                      have hcap : unk ≤ cap := Nat.le_of_ble_eq_true hun
                      cases hel : o.elem.beq e
                      · rw [hel] at h; cases h
                      rw [hel] at h
                      simp only [cond_true] at h
                      have hel' : o.elem = e := by simpa using hel
                      have hie' : ie = i := by rw [hel', h1] at hie; cases hie; rfl
                      rcases hc with ⟨hlt, _, _⟩ | ⟨hce, hlc, hfit, hq⟩
                      · omega
                      have hfit2 : q + cap' * i.size ≤ cs.size := by rw [hcsz, ← hie', hes]; exact hfit
                      cases hn0 : n.beq 0
                      · rw [hn0] at h
                        simp only [cond_false] at h
                        have hn' : 0 < n := by
                          have : ¬ n = 0 := fun e => by rw [e] at hn0; cases hn0
                          omega
                        cases hle : ((off + len * i.size).ble o.cells.length && new.all one && ((len + n) * (by_ + 1)).ble 140737488355328)
                        · rw [hle] at h; cases h
                        · rw [hle] at h
                          cases h
                          simp only [Bool.and_eq_true, Nat.ble_eq] at hle
                          obtain ⟨⟨hle', hallone⟩, hbb⟩ := hle
                          have hB : (len + n) * i.bytes ≤ 140737488355328 := by rw [h8]; exact hbb
                          obtain ⟨l, g1, g2, g3⟩ := old_ok ((hr.blk b L o hm ho).cel hmp) hle'
                          have g4 : ∀ (j : Nat) (y : Value), l[j]? = some y → w.cell? ⟨L.c, q + j, none⟩ = some y := fun j y hy => by
                            rcases hq with h0 | h0
                            · subst h0
                              have := (List.getElem?_eq_some_iff.1 hy).1
                              simp at g2
                              simp [g2] at this
                            · rw [h0]; exact g3 j y hy
                          have hlen' : len * i.size ≤ cap' * i.size := Nat.mul_le_mul_right _ hlc
                          by_cases hroom : len + n ≤ cap'
                          · have hrm2 : len * i.size + n * i.size ≤ cap' * i.size := by rw [← Nat.add_mul]; exact Nat.mul_le_mul_right _ hroom
                            have hnl : new'.length = n * i.size := by rw [← hS.vrs.1]; exact hS.newLen
                            have hone : ∀ u ∈ new', u.oneCell' = true := hS.vrs.one hallone
                            have hst := run_storeCells_at P L.c (q + len * i.size) o.elem new' 0 cs w k1 (by omega) hone
                            simp only [Nat.add_zero] at hst
                            have ht := take_sound hr hm ho hro k1 ((o.cells.drop off).take (len * i.size) ++ new) q (cs.toList.take (q + len * i.size) ++ new' ++ cs.toList.drop (q + len * i.size + new'.length)).toArray
                              (by simp; omega) (by have := hS.newLen; simp; omega) (fun k x hx => by
                                obtain ⟨y, hy, hv⟩ := (g1.append hS.vrs).2 k x hx
                                refine ⟨y, ?_, hv⟩
                                have hk := (List.getElem?_eq_some_iff.1 hy).1
                                simp only [List.length_append, g2, hnl] at hk
                                simp only [List.getElem?_toArray]
                                by_cases hkl : k < len * i.size
                                · rw [List.getElem?_append_left (by rw [g2]; exact hkl)] at hy
                                  have := g4 k y hy
                                  rw [List.append_assoc, List.getElem?_append_left (by simp; omega), List.getElem?_take, if_pos (by omega)]
                                  simpa [World.cell?, k1] using this
                                · rw [List.getElem?_append_right (by rw [g2]; omega), g2] at hy
                                  rw [List.getElem?_append_left (by simp; omega), List.getElem?_append_right (by simp; omega)]
                                  simp only [List.length_take, Array.length_toList, show min (q + len * i.size) cs.size = q + len * i.size by omega]
                                  rwa [show q + k - (q + len * i.size) = k - len * i.size by omega])
                            rw [hel'] at ht
                            refine ⟨_, _, _, room_run (P := P) (ty := ty) hut hux hint h1 hS hroom (a := ⟨L.c, q, none⟩) (by rw [Addr.add_mid]; exact hst), ?_, ht.1, ht.2⟩
                            exact VR.slice (L := ⟨L.c, q, L.sz, L.esz, false⟩) (Map.add_self _ _ _) rfl (.inr ⟨by rw [← hie', hes], hroom, hfit, .inr (by simp)⟩)
                          · obtain ⟨c, k, hc, hrun⟩ := grow_run (P := P) (ty := ty) (old' := l) (base := some ⟨L.c, q, none⟩) (sLen := len) (sCap := cap') hut hux hint h1 h2 hby hS hn' (by omega)
                                (fun k => firstCells_ok g2 (fun j y hy => by rw [Addr.add_mid]; exact g4 j y hy) k) hB
                            · have hk := hr.kill b (by rw [hm]; simp)
                              obtain ⟨m', j1, j2, j3⟩ := grown_ok (k := k) hk.1 h1 h3 g1 hS.vrs (len := len) (by rw [g1.1, g2]) hS.newLen hc
                              exact ⟨_, _, m', hrun, j1, j2, hk.2.trans hr j3⟩
                      · rw [hn0] at h
                        cases h
                        have : n = 0 := by simpa using hn0
                        subst this
                        have hnil : new' = [] := List.eq_nil_of_length_eq_zero (by rw [← hS.vrs.1, hS.newLen]; simp)
                        subst hnil
                        exact ⟨_, w, m, room_run (P := P) (ty := ty) hut hux hint h1 hS (by omega) (a := ⟨L.c, q, none⟩) rfl, .slice hm hmp (.inr ⟨hce, hlc, hfit, hq⟩), hr, Fr.refl _ _ _⟩
                  · rw [hro] at h; cases h
              · cases h
            · rw [hbl] at h; cases h
          · cases h
        · cases h
      · cases h
    · rw [hint] at h; cases h
  · cases h
end Go.Ev
/- The operations of the evaluator, all of them, are the model's. -/
namespace Go.Ev
open Go
set_option linter.unusedVariables false
set_option linter.unusedSimpArgs false
theorem bytesOf_spec : ∀ (l : List Value) (s0 s : ByteArray), bytesOf.go l s0 = some s → ∃ ns : List Int, l = ns.map (Value.int .u8) ∧ s = ns.foldl (fun r n => r.push (UInt8.ofNat n.toNat)) s0 := by
  intro l
  induction l with
  | nil => intro s0 s h; simp only [bytesOf.go] at h; cases h; exact ⟨[], rfl, rfl⟩
  | cons v l ih =>
    intro s0 s h
    unfold bytesOf.go at h
    split at h
    · rename_i he; cases he
    · rename_i n r he; cases he
      obtain ⟨ns, h1, h2⟩ := ih _ _ h
      exact ⟨n :: ns, by rw [h1]; rfl, h2⟩
    · cases h
theorem prun_run {α : Type} {P : Program} {w : World} (s : Sem α) : ∀ (a : α), prun P s = some a → s.run P w = .ok a w := by
  induction s with
  | pure b => intro a h; simp only [prun] at h; cases h; rfl
  | program k ih => intro a h; simp only [prun] at h; exact ih P a h
  | _ => intro a h; simp [prun] at h
def TmRel (m : Map) (tm : Tr Value) (arr : Array Value) : Prop := ∀ t, VR m ((tm.get t).getD undef) (arr.getD t undef)
theorem TmRel.mono {m m' : Map} (hm : m.le m') {tm : Tr Value} {arr : Array Value} (h : TmRel m tm arr) : TmRel m' tm arr := fun t => (h t).mono hm
/-- What an operation looks at goes together. -/
def OpRel (m : Map) (tm : Tr Value) (a : Act) (xs : List Operand) : Prop := ∀ x ∈ xs, ∀ v, aeval tm x = some v → VR m v (a.eval x)
section
variable {m : Map} {tm : Tr Value} {a : Act}
theorem TmRel.op (ht : TmRel m tm a.tmps) (xs : List Operand) : OpRel m tm a xs := by
  intro x _ v h
  cases x with
  | tmp t => simp only [aeval] at h; cases h; exact ht t
  | const c =>
    simp only [aeval] at h
    cases hc : closed c
    · rw [hc] at h; cases h
    · rw [hc] at h; cases h; exact VR.of_closed hc
  | func f => simp only [aeval] at h; cases h; exact VR.of_closed rfl
  | global g => simp [aeval] at h
theorem aevals_sound : ∀ {xs : List Operand} {l : List Value}, OpRel m tm a xs → aevals tm xs = some l → VRs m l (xs.map a.eval) := by
  intro xs
  induction xs with
  | nil => intro l ht h; simp only [aevals] at h; cases h; exact VRs.nil
  | cons x xs ih =>
    intro l ht h
    simp only [aevals] at h
    split at h
    · rename_i v l' h1 h2
      cases h
      exact VRs.cons (ht x (by simp) _ h1) (ih (fun y hy => ht y (by simp [hy])) h2)
    · cases h
theorem aevalp_sound : ∀ {xs : List (Nat × Operand)} {l : List (Nat × Value)}, OpRel m tm a (xs.map (·.2)) → aevalp tm xs = some l → PR m l (xs.map fun p => (p.1, a.eval p.2)) := by
  intro xs
  induction xs with
  | nil => intro l ht h; simp only [aevalp] at h; cases h; exact .nil
  | cons x xs ih =>
    intro l ht h
    obtain ⟨i, x⟩ := x
    simp only [aevalp] at h
    split at h
    · rename_i v l' h1 h2
      cases h
      exact .cons (ht x (by simp) _ h1) (ih (fun y hy => ht y (by simp at hy ⊢; exact .inr hy)) h2)
    · cases h
theorem aevalo_sound {x : Option Operand} {o : Option Value} (ht : OpRel m tm a x.toList) (h : aevalo tm x = some o) : (∀ v, o = some v → ∃ v', x.map a.eval = some v' ∧ VR m v v') ∧ (o = none → x.map a.eval = none) := by
  cases x with
  | none => simp only [aevalo] at h; cases h; exact ⟨fun v h => (by cases h), fun _ => rfl⟩
  | some x =>
    simp only [aevalo] at h
    split at h
    · rename_i v hv
      cases h
      exact ⟨fun u hu => by cases hu; exact ⟨_, rfl, ht x (by simp) _ hv⟩, fun h => by cases h⟩
    · cases h
theorem fallback0_sound {P : Program} {o : Oper} {v : Value} {w : World} (ht : OpRel m tm a o.op.operands.toList) (hs : ∀ cs b, o.op ≠ .select cs b) (h : fallback0 P tm o = some v) : (execOp a.eval o).run P w = .ok (.value v) w ∧ closed v = true := by
  unfold fallback0 at h
  cases hall : o.op.operands.toList.all (dataAt tm)
  · rw [hall] at h; cases h
  · rw [hall] at h
    simp only [cond_true] at h
    split at h
    · rename_i u hu
      cases hc : closed u
      · rw [hc] at h; cases h
      · rw [hc] at h
        cases h
        refine ⟨?_, hc⟩
        have : execOp a.eval o = execOp (ρ tm) o := execOp_congr o hs fun x hx => by
          have h1 := List.all_eq_true.1 hall x (by simpa using hx)
          unfold dataAt at h1
          split at h1
          · rename_i v' hv'
            have := (ht x (by simpa using hx) _ hv').closed_eq h1
            simp [ρ, hv', this]
          · cases h1
        rw [this]
        exact prun_run _ _ hu
    · cases h
theorem aeqF_run {P : Program} {w : World} {xs ys : Array Value} {d : Nat} : ∀ (fs : List Field) (q : Bool), aeqF P xs ys fs = some q → (Op.eqFields (d + 1) xs ys fs).run P w = .ok q w := by
  intro fs
  induction fs with
  | nil => intro q h; simp only [aeqF] at h; cases h; simp [Op.eqFields]
  | cons f r ih =>
    intro q h
    simp only [aeqF] at h
    cases hn : f.name == "_"
    · rw [hn] at h
      simp only [cond_false] at h
      have hn' : f.name ≠ "_" := by simpa using hn
      split at h
      · rename_i k0 k a k' b q0 hu hx hy hr
        cases hk : k == k'
        · rw [hk] at h; cases h
        · rw [hk] at h
          simp only [cond_true] at h
          cases h
          have hk := eq_of_beq hk
          subst hk
          have hp : P.plainKey f.type = true := by unfold Program.plainKey; rw [hu]
          simp only [Op.eqFields, hn', ne_eq, not_false_eq_true, if_true, Sem.run_bind, run_part_plain w hp hx, run_part_plain w hp hy, Result.andThen_ok, run_equalIn_int w d f.type k k0 a b hu]
          cases he : a == b
          · simp
          · simpa using ih _ hr
      · rename_i a b q0 hu hx hy hr
        cases h
        have hp : P.plainKey f.type = true := by unfold Program.plainKey; rw [hu]
        simp only [Op.eqFields, hn', ne_eq, not_false_eq_true, if_true, Sem.run_bind, run_part_plain w hp hx, run_part_plain w hp hy, Result.andThen_ok, run_equalIn_bool' w d f.type a b hu]
        cases he : a == b
        · simp
        · simpa using ih _ hr
      · cases h
    · rw [hn] at h; cases h
theorem aggEq_sound {P : Program} {o : Oper} {v : Value} {w : World} (ht : OpRel m tm a o.op.operands.toList) (hs : o.op.operands.toList.all (dataAt tm) = true) (h : aggEq P tm o = some v) : (execOp a.eval o).run P w = .ok (.value v) w ∧ closed v = true := by
  unfold aggEq at h
  split at h
  · rename_i op t xa xb t2 hop
    have hcl : ∀ x ∈ o.op.operands.toList, ∀ u, aeval tm x = some u → a.eval x = u := fun x hx u hu => by
      have h1 := List.all_eq_true.1 hs x hx
      unfold dataAt at h1
      rw [hu] at h1
      exact (ht x hx u hu).closed_eq h1
    rw [hop] at hcl
    have struct_of : ∀ {d : TypeDesc}, isStr (P.underlying t) = true → P.underlying t = some (.struct (P.fieldsOf t)) := by
      intro d hd
      unfold isStr at hd
      split at hd
      · rename_i fs hu; simp [Program.fieldsOf, hu]
      · cases hd
    split at h
    · rename_i x y hx hy
      have e1 := hcl xa (by simp [Op.operands]) _ hx
      have e2 := hcl xb (by simp [Op.operands]) _ hy
      cases hb : (isStr (P.underlying t) && !P.stoodInHeld t && !P.eqGuardType P.depth t)
      · rw [hb] at h; cases h
      · rw [hb] at h
        simp only [cond_true] at h
        simp only [Bool.and_eq_true, Bool.not_eq_true'] at hb
        split at h
        · rename_i q hq
          cases h
          refine ⟨?_, rfl⟩
          have hst := struct_of (d := .bool) hb.1.1
          have hfs : fsOf P t = (P.fieldsOf t).toList := by unfold fsOf; rw [hst]
          rw [hfs] at hq
          have := aeqF_run (w := w) (d := 9998) _ q hq
          simp only [execOp, hop, e1, e2, Sem.run_bind, run_eqGuard_agg w .eql t xa xb x y hb.2, Result.andThen_ok, run_eql_struct, run_equalIn_agg w 9999 t x y hst hb.1.2, this, Sem.run_pure]
        · cases h
    · rename_i x y hx hy
      have e1 := hcl xa (by simp [Op.operands]) _ hx
      have e2 := hcl xb (by simp [Op.operands]) _ hy
      cases hb : (isStr (P.underlying t) && !P.stoodInHeld t && !P.eqGuardType P.depth t)
      · rw [hb] at h; cases h
      · rw [hb] at h
        simp only [cond_true] at h
        simp only [Bool.and_eq_true, Bool.not_eq_true'] at hb
        split at h
        · rename_i q hq
          cases h
          refine ⟨?_, rfl⟩
          have hst := struct_of (d := .bool) hb.1.1
          have hfs : fsOf P t = (P.fieldsOf t).toList := by unfold fsOf; rw [hst]
          rw [hfs] at hq
          have := aeqF_run (w := w) (d := 9998) _ q hq
          simp only [execOp, hop, e1, e2, Sem.run_bind, run_eqGuard_agg w .neq t xa xb x y hb.2, Result.andThen_ok, run_neq_struct, run_equalIn_agg w 9999 t x y hst hb.1.2, this, Sem.run_pure]
        · cases h
    · cases h
  · cases h
theorem fallback_sound {P : Program} {o : Oper} {v : Value} {w : World} (ht : OpRel m tm a o.op.operands.toList) (hs : ∀ cs b, o.op ≠ .select cs b) (h : fallback P tm o = some v) : (execOp a.eval o).run P w = .ok (.value v) w ∧ closed v = true := by
  unfold fallback at h
  split at h
  · rename_i u hu
    cases hb : o.op.operands.toList.all (dataAt tm)
    · rw [hb] at h; cases h
    · rw [hb] at h
      cases h
      exact aggEq_sound ht hb hu
  · exact fallback0_sound ht hs h
end
section
variable {P : Program} {T : Tab} (hT : TabOk P T) {m : Map} {H : Heap} {w : World}
include hT
theorem aconvert_sound0 {src dst : TypeId} {x x' v : Value} (h : aconvert T src dst x H = some v) (hr : Rep0 P m H w) (hx : VR m x x') :
    (Go.convert src dst x').run P w = .ok v w ∧ plain v = true := by
  unfold aconvert at h
  split at h
  · rename_i sd k k' n hs hd
    cases h
    rw [hx.plain_eq rfl]
    refine ⟨?_, rfl⟩
    cases sd <;> simp [Go.convert, run_under hT hs, run_under hT hd, Conv.intToInt]
  · rename_i e l c hs hd
    rw [hx.plain_eq rfl]
    cases hu : isU8 (T.under e)
    · rw [hu] at h; cases h
    rw [hu] at h
    cases h
    have he : T.under e = some (.int .u8) := by
      unfold isU8 at hu
      split at hu
      · assumption
      · cases hu
    refine ⟨?_, rfl⟩
    rw [run_convert_bytes_string w src dst e none l c (hT.under _ _ hs) (hT.under _ _ he) (hT.under _ _ hd)]
    rfl
  · rename_i e b off n c hs hd
    cases hu : isU8 (T.under e)
    · rw [hu] at h; cases h
    rw [hu] at h
    simp only [cond_true] at h
    have he : T.under e = some (.int .u8) := by
      unfold isU8 at hu
      split at hu
      · assumption
      · cases hu
    split at h
    · rename_i o ho
      cases hlen : ((o.cells.drop off).take n).length.beq n
      · simp only [hlen, cond_false] at h; cases h
      · simp only [hlen, cond_true] at h
        split at h
        · rename_i s hsb
          cases h
          refine ⟨?_, rfl⟩
          cases hx with
          | same hp => simp [plain] at hp
          | slice hm hmp hc =>
            rename_i q c' L
            rw [run_convert_bytes_string w src dst e _ n c' (hT.under _ _ hs) (hT.under _ _ he) (hT.under _ _ hd)]
            have hlen' : ((o.cells.drop off).take n).length = n := by simpa using hlen
            obtain ⟨l, h1, h2, h3, h4⟩ := cells_take ((hr.blk b L o hm ho).cel hmp) off n hlen'
            obtain ⟨ns, h5, h6⟩ := bytesOf_spec _ _ _ hsb
            have hl : l = ns.map (Value.int .u8) := by
              rw [h5] at h1
              refine List.ext_getElem? fun i => ?_
              by_cases hi : i < ns.length
              · obtain ⟨y, hy, hv⟩ := h1.2 i (.int .u8 ns[i]) (by simp [hi])
                rw [hy, hv.plain_eq rfl]; simp [hi]
              · rw [List.getElem?_eq_none (by have := h1.1; simp at this; omega), List.getElem?_eq_none (by simp; omega)]
            have hrun : (loadCells ⟨L.c, q, none⟩ n).run P w = .ok l.toArray w := by
              have := run_loadCells_list (P := P) w ⟨L.c, q, none⟩ l (fun j y hy => by
                rw [Addr.add_mid]
                rcases hc with ⟨_, _, rfl⟩ | ⟨_, _, _, h0 | rfl⟩
                · exact h3 j y hy
                · have := (List.getElem?_eq_some_iff.1 hy).1; omega
                · exact h3 j y hy)
              rwa [h2] at this
            rw [hl] at hrun
            rw [run_bytesToString w _ n c' ns hrun, h6]
        · cases h
    · cases h
  · cases h
theorem aconvert_sound [Bs] {src dst : TypeId} {x x' v : Value} (h : aconvert T src dst x H = some v) (hr : Rep P m H w) (hx : VR m x x') :
    (Go.convert src dst x').run P w = .ok v w ∧ plain v = true := aconvert_sound0 hT h hr.toRep0 hx
omit hT in
theorem atrim_sound [Bs] {size k n : Nat} {x x' y : Value} {l : List Value} {n1 : Nat} (hs : 0 < size) (h : atrim k x = some (n, y)) (hsrc : asrc size y H = some (n1, l)) (hr : Rep P m H w) (hx : VR m x x') :
    ∃ n0 l', Builtin.lenOf x' = Sem.pure n0 ∧ n = Nat.min n0 k ∧ (Builtin.firstCells size n x').run P w = .ok l'.toArray w ∧ VRs m l l' ∧ l.length = n * size := by
  unfold atrim at h
  split at h
  · rename_i a n0 c
    cases h
    cases hx with
    | same hp =>
      cases a with
      | some a => simp [plain] at hp
      | none =>
        unfold asrc at hsrc
        simp only at hsrc
        cases hb : (Nat.min n0 k).beq 0
        · rw [hb] at hsrc; cases hsrc
        · rw [hb] at hsrc
          cases hsrc
          have : Nat.min n0 k = 0 := by simpa using hb
          exact ⟨n0, [], rfl, rfl, rfl, VRs.nil, by rw [this]; simp⟩
    | slice hm hmp hc =>
      rename_i b off q c' L
      have hvr : VR m (.slice (some ⟨b, off, none⟩) (Nat.min n0 k) c) (.slice (some ⟨L.c, q, none⟩) (Nat.min n0 k) c') := by
        have hle : Nat.min n0 k ≤ n0 := Nat.min_le_left _ _
        refine .slice hm hmp ?_
        rcases hc with h1 | ⟨h1, h2, h3, h4⟩
        · exact .inl h1
        · refine .inr ⟨h1, by omega, h3, ?_⟩
          rcases h4 with h4 | h4
          · exact .inl (by omega)
          · exact .inr h4
      have hn1 : n1 = Nat.min n0 k := by
        unfold asrc at hsrc
        simp only at hsrc
        split at hsrc
        · rename_i o ho
          cases hq : ((o.cells.drop off).take (Nat.min n0 k * size)).length.beq (Nat.min n0 k * size)
          · rw [hq] at hsrc; cases hsrc
          · rw [hq] at hsrc; cases hsrc; rfl
        · cases hsrc
      subst hn1
      obtain ⟨new', hS⟩ := asrc_sound hs hsrc hr hvr
      exact ⟨n0, new', rfl, rfl, hS.cells P w.drawn, hS.vrs, hS.newLen⟩
  · rename_i s
    cases h
    rw [hx.plain_eq rfl]
    unfold asrc at hsrc
    simp only at hsrc
    cases hq : size.beq 1
    · rw [hq] at hsrc; cases hsrc
    · rw [hq] at hsrc
      cases hsrc
      refine ⟨s.size, _, rfl, rfl, ?_, VRs.of_closed (by simp only [List.all_map, List.all_eq_true]; intro b _; rfl), by have h1 : size = 1 := (by simpa using hq); subst h1; simp⟩
      simp only [Builtin.firstCells, Sem.run_pure]
      congr 1
      apply Array.ext'
      simp
  · cases h
theorem acopy_sound [Bs] {dt xt : TypeId} {d x d' x' v : Value} {H' : Heap} (h : acopy T dt d x H = some (v, H')) (hr : Rep P m H w) (hd : VR m d d') (hx : VR m x x') (ty : TypeId) :
    ∃ w', (Builtin.copy_ #[dt, xt] ty #[d', x']).run P w = .ok v w' ∧ plain v = true ∧ Rep P m H' w' ∧ Fr m H w m H' w' := by
  unfold acopy at h
  split at h
  · rename_i e base dlen dcap hdt
    split at h
    · rename_i s0 n y hn hy
      split at h
      · rename_i n1 hs
        cases h
        obtain ⟨n0, l', h1, h2, h3, h4, h5⟩ := atrim_sound (by omega) hy hs hr hx
        have hl' : l' = [] := List.eq_nil_of_length_eq_zero (by have := h4.1; simp at this; omega)
        subst hl'
        subst h2
        refine ⟨w, ?_, rfl, hr, Fr.refl _ _ _⟩
        cases hd with
        | same hp => cases base <;> simp [Builtin.copy_, run_under hT hdt, h1, run_size hT hn, h3, goInt, storeCells]
        | slice hm hmp hc => simp [Builtin.copy_, run_under hT hdt, h1, run_size hT hn, h3, goInt, storeCells]
      · rename_i n1 l hne hs
        obtain ⟨n0, l', h1, h2, h3, h4, h5⟩ := atrim_sound (by omega) hy hs hr hx
        split at h
        · rename_i b off
          split at h
          · rename_i H2 hput
            cases h
            cases hd with
            | same hp => simp [plain] at hp
            | slice hm hmp hc =>
              rename_i q c' L
              obtain ⟨w', g1, g2, g3⟩ := aput_sound hput hr hm hmp h4
              subst h2
              have hl0 : dlen ≠ 0 := by
                intro h0
                subst h0
                have : l = [] := List.eq_nil_of_length_eq_zero (by rw [h5]; simp)
                exact hne this
              have hq : q = L.o + off := by
                rcases hc with ⟨_, _, h⟩ | ⟨_, _, _, h⟩
                · exact h
                · omega
              subst hq
              refine ⟨w', ?_, rfl, g2, g3⟩
              simp [Builtin.copy_, run_under hT hdt, h1, run_size hT hn, h3, g1, goInt]
          · cases h
        · cases h
      · cases h
    · cases h
  · cases h
end
end Go.Ev
/- Maps, and walks over them. -/
namespace Go.Ev
open Go
set_option linter.unusedVariables false
set_option linter.unusedSimpArgs false
theorem VRs.tuple2 {m : Map} {xs ys : Array Value} (h : VRs m xs.toList ys.toList) : VR m (.tuple xs) (.tuple ys) := .tuple h.arr.1 h.arr.2
theorem mcells_cons (x : Row) (l : List Row) : mcells (x :: l) = x.1 :: x.2.1 :: .int .i64 (x.2.2 : Nat) :: mcells l := rfl
theorem mrows_spec : ∀ (cs : List Value) (l : List Row), mrows cs = some l → cs = mcells l := by
  intro cs
  induction cs using mrows.induct with
  | case1 => intro l h; simp [mrows] at h; subst h; rfl
  | case2 k v n r l' hl ih =>
    intro l h
    simp only [mrows, hl] at h
    cases h
    rw [mcells_cons, ← ih _ hl]; rfl
  | case3 k v n r hl ih =>
    intro l h
    simp only [mrows, hl] at h
    cases h
  | case4 cs h1 h2 =>
    intro l h
    rw [mrows] at h
    · cases h
    · exact h1
    · exact h2
theorem mrows_cells (l : List Row) : mrows (mcells l) = some l := by
  induction l with
  | nil => rfl
  | cons x l ih =>
    rw [mcells_cons]
    show mrows (x.1 :: x.2.1 :: .int .i64 (Int.ofNat x.2.2) :: mcells l) = _
    rw [mrows, ih]
theorem mparse_spec {cs : List Value} {c : Nat} {l : List Row} (h : mparse cs = some (c, l)) : cs = mlay c l := by
  unfold mparse at h
  split at h
  · split at h
    · rename_i l' hl
      cases h
      rw [mrows_spec _ _ hl]; rfl
    · cases h
  · cases h
theorem mparse_lay (c : Nat) (l : List Row) : mparse (mlay c l) = some (c, l) := by
  show (match mrows (mcells l) with | some l => some (c, l) | none => none) = _
  rw [mrows_cells]
theorem mlay_inj {c c' : Nat} {l l' : List Row} (h : mlay c l = mlay c' l') : c = c' ∧ l = l' := by
  have := mparse_lay c l
  rw [h, mparse_lay] at this
  cases this; exact ⟨rfl, rfl⟩
theorem inats_spec : ∀ (cs : List Value) (l : List Nat), inats cs = some l → cs = l.map fun n => .int .i64 (n : Nat) := by
  intro cs
  induction cs using inats.induct with
  | case1 => intro l h; simp [inats] at h; subst h; rfl
  | case2 n r l' hl ih =>
    intro l h
    simp only [inats, hl] at h
    cases h
    rw [List.map_cons, ← ih _ hl]; rfl
  | case3 n r hl ih =>
    intro l h
    simp only [inats, hl] at h
    cases h
  | case4 cs h1 h2 =>
    intro l h
    rw [inats] at h
    · cases h
    · exact h1
    · exact h2
theorem inats_map (l : List Nat) : inats (l.map fun n => .int .i64 (n : Nat)) = some l := by
  induction l with
  | nil => rfl
  | cons x l ih =>
    rw [List.map_cons]
    show inats (.int .i64 (Int.ofNat x) :: _) = _
    rw [inats, ih]
theorem iparse_spec {cs : List Value} {b s q : Nat} {l : List Nat} (h : iparse cs = some (b, s, q, l)) : cs = icells b s q l := by
  unfold iparse at h
  split at h
  · split at h
    · rename_i l' hl
      cases h
      rw [inats_spec _ _ hl]; rfl
    · cases h
  · cases h
theorem iparse_lay (b s q : Nat) (l : List Nat) : iparse (icells b s q l) = some (b, s, q, l) := by
  show (match inats (l.map fun n => .int .i64 (n : Nat)) with | some l => some (b, s, q, l) | none => none) = _
  rw [inats_map]
theorem icells_inj {b s q b' s' q' : Nat} {l l' : List Nat} (h : icells b s q l = icells b' s' q' l') : b = b' ∧ s = s' ∧ q = q' ∧ l = l' := by
  have := iparse_lay b s q l
  rw [h, iparse_lay] at this
  cases this; exact ⟨rfl, rfl, rfl, rfl⟩
theorem icells_mlay {b s q c : Nat} {l : List Nat} {r : List Row} (h : icells b s q l = mlay c r) : False := by
  unfold icells mlay at h
  injection h with h1 _
  cases h1
def RowsOk (m : Map) (l : List Row) (es : Array MapEntry) : Prop := ∀ (i : Nat) (x : Row), l[i]? = some x → ∃ e : MapEntry, es[i]? = some e ∧ (closed x.1 = true ∧ e.key = x.1) ∧ VR m x.2.1 e.val ∧ e.born = x.2.2
section
variable {P : Program} {m : Map} {H : Heap} {w : World}
theorem mapAt_spec {u : Value} {b c : Nat} {o : Ob} {l : List Row} (h : mapAt u H = some (b, o, c, l)) : u = .map (some b) ∧ H.get b = some o ∧ o.cells = mlay c l := by
  unfold mapAt at h
  split at h
  · split at h
    · rename_i o' ho
      split at h
      · rename_i c' l' hp
        cases h
        exact ⟨rfl, ho, mparse_spec hp⟩
      · cases h
    · cases h
  · cases h
theorem mapBlk_sound {b c : Nat} {o : Ob} {l : List Row} {L : Loc} (hr : Rep0 P m H w) (hb : m b = some L) (hmp : L.mp = true) (ho : H.get b = some o) (hc : o.cells = mlay c l) :
    ∃ es, o.ro = false ∧ w.heap[L.c]? = some (.map es c) ∧ l.length = es.size ∧ RowsOk m l es := by
  obtain ⟨hro, ⟨es, cl, l', g1, g2, g3, g4⟩ | ⟨b', M, s, st, seen, _, _, _, g⟩⟩ := (hr.blk b L o hb ho).mapd hmp
  · obtain ⟨rfl, rfl⟩ := mlay_inj (hc.symm.trans g2)
    exact ⟨es, hro, g1, g3, g4⟩
  · exact (icells_mlay (g.symm.trans hc)).elim
theorem mapAt_sound {u u' : Value} {b c : Nat} {o : Ob} {l : List Row} (h : mapAt u H = some (b, o, c, l)) (hr : Rep0 P m H w) (hu : VR m u u') :
    ∃ L es, u' = .map (some L.c) ∧ m b = some L ∧ L.mp = true ∧ H.get b = some o ∧ o.ro = false ∧ w.heap[L.c]? = some (.map es c) ∧ l.length = es.size ∧ RowsOk m l es := by
  obtain ⟨rfl, ho, hc⟩ := mapAt_spec h
  cases hu with
  | same hp => simp [plain] at hp
  | map hb hmp =>
    obtain ⟨es, h1, h2, h3, h4⟩ := mapBlk_sound hr hb hmp ho hc
    exact ⟨_, es, rfl, hb, hmp, ho, h1, h2, h3, h4⟩
theorem iterAt_sound {u u' : Value} {i b s q : Nat} {o : Ob} {l : List Nat} (h : iterAt u H = some (i, o, b, s, q, l)) (hr : Rep0 P m H w) (hu : VR m u u') :
    ∃ L M, u' = .pointer (some ⟨L.c, 0, none⟩) ∧ m i = some L ∧ L.mp = true ∧ H.get i = some o ∧ o.ro = false ∧ m b = some M ∧ M.mp = true ∧ w.heap[L.c]? = some (.mapIter (some M.c) s l.toArray q) := by
  unfold iterAt at h
  split at h
  · split at h
    · rename_i o' ho
      split at h
      · rename_i hp
        cases h
        have hc := iparse_spec hp
        cases hu with
        | same hp => simp [plain] at hp
        | iter hb hmp =>
          obtain ⟨hro, ⟨es, cl, l', g1, g2, g3, g4⟩ | ⟨b', M, s', st', seen', k1, k2, k3, k4⟩⟩ := (hr.blk _ _ _ hb ho).mapd hmp
          · exact (icells_mlay (hc.symm.trans g2)).elim
          · obtain ⟨rfl, rfl, rfl, rfl⟩ := icells_inj (hc.symm.trans k4)
            exact ⟨_, M, rfl, hb, hmp, ho, hro, k1, k2, k3⟩
      · cases h
    · cases h
  · cases h
/-! Keys -/
theorem keyEq_cases {kt : TypeId} {x y : Value} {q : Bool} (h : keyEq P kt x y = some q) :
    (∃ k a b, P.underlying kt = some (.int k) ∧ x = .int k a ∧ y = .int k b ∧ q = (a == b)) ∨
    (∃ u v, P.underlying kt = some (.struct (P.fieldsOf kt)) ∧ x = .agg u ∧ y = .agg v ∧ P.stoodInHeld kt = false ∧ aeqF P u v (P.fieldsOf kt).toList = some q) := by
  unfold keyEq at h
  split at h
  · rename_i k0 k a j b hu
    cases hb : (k == k0 && j == k0)
    · rw [hb] at h; cases h
    · rw [hb] at h
      simp only [cond_true, Option.some.injEq] at h
      simp only [Bool.and_eq_true, beq_iff_eq] at hb
      obtain ⟨rfl, rfl⟩ := hb
      exact .inl ⟨_, a, b, hu, rfl, rfl, h.symm⟩
  · rename_i fs u v hu
    cases hb : P.stoodInHeld kt
    · rw [hb] at h
      simp only [cond_false] at h
      have hf : P.fieldsOf kt = fs := by simp [Program.fieldsOf, hu]
      exact .inr ⟨u, v, by rw [hf]; exact hu, rfl, rfl, rfl, by rw [hf]; exact h⟩
    · rw [hb] at h; cases h
  · cases h
theorem keyEq_run {kt : TypeId} {x y : Value} {q : Bool} (h : keyEq P kt x y = some q) (w : World) : (Op.equal kt x y).run P w = .ok q w := by
  rcases keyEq_cases h with ⟨k, a, b, hu, rfl, rfl, rfl⟩ | ⟨u, v, hu, rfl, rfl, hs, hq⟩
  · exact run_equalIn_int w 9999 kt k k a b hu
  · show (Op.equalIn (9999 + 1) kt (.agg u) (.agg v)).run P w = _
    rw [run_equalIn_agg w 9999 kt u v hu hs, aeqF_run (w := w) (d := 9998) _ q hq]
theorem aeqF_part {xs : Array Value} : ∀ (fs : List Field) (q : Bool), aeqF P xs xs fs = some q → ∀ f ∈ fs, f.name ≠ "_" ∧ ∃ y, P.plainKey f.type = true ∧ xs[f.offset]? = some y ∧ ∀ (w : World) (e : Bool) (n : Nat), (Instr.checkKey e (n + 1) f.type y).run P w = .ok () w := by
  intro fs
  induction fs with
  | nil => intro q h f hf; cases hf
  | cons g r ih =>
    intro q h f hf
    simp only [aeqF] at h
    cases hn : g.name == "_"
    · rw [hn] at h
      simp only [cond_false] at h
      have hn' : g.name ≠ "_" := by simpa using hn
      split at h
      · rename_i k0 k a k' b q0 hu hx hy hr
        rcases List.mem_cons.1 hf with rfl | hf
        · refine ⟨hn', _, by unfold Program.plainKey; rw [hu], hx, fun w e n => ?_⟩
          simp [Instr.checkKey, run_underlying hu]
        · exact ih _ hr f hf
      · rename_i a b q0 hu hx hy hr
        rcases List.mem_cons.1 hf with rfl | hf
        · refine ⟨hn', _, by unfold Program.plainKey; rw [hu], hx, fun w e n => ?_⟩
          simp [Instr.checkKey, run_underlying hu]
        · exact ih _ hr f hf
      · cases h
    · rw [hn] at h; cases h
theorem checkKey_run0 {kt : TypeId} {x : Value} {q : Bool} (h : keyEq P kt x x = some q) (w : World) (e : Bool) (n : Nat) : (Instr.checkKey e (n + 2) kt x).run P w = .ok () w := by
  rcases keyEq_cases h with ⟨k, a, b, hu, rfl, _, rfl⟩ | ⟨u, v, hu, rfl, hv, hs, hq⟩
  · simp [Instr.checkKey, run_underlying hu]
  · cases hv
    have each := aeqF_part _ _ hq
    rw [show n + 2 = (n + 1) + 1 from rfl, Instr.checkKey]
    simp only [Sem.run_bind, run_underlying hu, Result.andThen_ok]
    rw [← Array.forIn_toList]
    generalize (P.fieldsOf kt).toList = L at each
    induction L with
    | nil => simp
    | cons f L ih =>
      obtain ⟨hn, y, hp, hy, hc⟩ := each f (by simp)
      simp only [List.forIn_cons, Sem.run_bind, hn, ne_eq, not_false_eq_true, if_true, Result.andThen_ok, run_part_plain w hp hy, hc w e n, Sem.run_pure]
      exact ih fun g hg => each g (by simp [hg])
theorem checkKey_run {kt : TypeId} {x : Value} {q : Bool} (h : keyEq P kt x x = some q) (w : World) (e : Bool) : (Instr.checkKey e 10000 kt x).run P w = .ok () w := checkKey_run0 h w e 9998
theorem mkey_spec {kt : TypeId} {i : Value} (h : mkey P kt i = true) : closed i = true ∧ ∃ q, keyEq P kt i i = some q := by
  unfold mkey at h
  simp only [Bool.and_eq_true] at h
  refine ⟨h.1, ?_⟩
  cases hq : keyEq P kt i i with
  | none => rw [hq] at h; cases h.2
  | some q => exact ⟨q, rfl⟩
theorem asking_sound {kt : TypeId} {k : Value} (w : World) : ∀ (l : List Row) (es : List MapEntry) (n0 : Nat), l.length = es.length → (∀ (i : Nat) (x : Row), l[i]? = some x → ∃ e : MapEntry, es[i]? = some e ∧ (closed x.1 = true ∧ e.key = x.1) ∧ VR m x.2.1 e.val ∧ e.born = x.2.2) → ∀ r, mfind P kt k l n0 = some r →
    (r = none ∧ (Instr.findAsking kt k es n0).run P w = .ok none w) ∨ ∃ j v n e, r = some (n0 + j, v, n) ∧ es[j]? = some e ∧ VR m v e.val ∧ e.born = n ∧ Instr.sameBits 10000 e.key k = true ∧ (Instr.findAsking kt k es n0).run P w = .ok (some (n0 + j, e.val)) w
  | [], [], n0, _, _, r, h => by cases h; exact .inl ⟨rfl, by simp [Instr.findAsking]⟩
  | x :: l, [], n0, hl, _, r, h => by simp at hl
  | [], e :: es, n0, hl, _, r, h => by simp at hl
  | (y, v, n) :: l, e :: es, n0, hl, hv, r, h => by
    obtain ⟨e', he, ⟨_, h1⟩, h2, h3⟩ := hv 0 (y, v, n) rfl
    simp at he; subst he
    have h1 : e.key = y := h1
    unfold mfind at h
    split at h
    · rename_i hq
      have hrun := keyEq_run hq w
      rw [← h1] at hrun
      cases hs : Instr.sameBits 10000 y k
      · rw [hs] at h; cases h
      · rw [hs] at h
        cases h
        exact .inr ⟨0, v, n, e, rfl, rfl, h2, h3, by rw [h1]; exact hs, by simp [Instr.findAsking, hrun]⟩
    · rename_i hq
      have hrun := keyEq_run hq w
      rw [← h1] at hrun
      rcases asking_sound w l es (n0 + 1) (by simpa using hl) (fun i z hz => by have := hv (i + 1) z (by simpa using hz); simpa using this) r h with ⟨k1, k2⟩ | ⟨j, v', n', e2, k1, k2, k3, k4, k5, k6⟩
      · exact .inl ⟨k1, by simp [Instr.findAsking, hrun, k2]⟩
      · exact .inr ⟨j + 1, v', n', e2, by rw [k1]; congr 2; omega, by simpa using k2, k3, k4, k5, by simp [Instr.findAsking, hrun, k6, Nat.add_assoc, Nat.add_comm 1 j]⟩
    · cases h
theorem findNow_sound {q : IntKind} {kt : TypeId} {a : Int} (hu : P.underlying kt = some (.int q)) : ∀ (l : List Row) (es : List MapEntry) (n0 : Nat), l.length = es.length → (∀ (i : Nat) (x : Row), l[i]? = some x → ∃ e : MapEntry, es[i]? = some e ∧ (closed x.1 = true ∧ e.key = x.1) ∧ VR m x.2.1 e.val ∧ e.born = x.2.2) → ∀ r, mfind P kt (.int q a) l n0 = some r →
    (r = none ∧ Instr.findNow (.int q) (.int q a) es n0 = some none) ∨ ∃ j v n e, r = some (n0 + j, v, n) ∧ es[j]? = some e ∧ VR m v e.val ∧ e.born = n ∧ Instr.sameBits 10000 e.key (.int q a) = true ∧ Instr.findNow (.int q) (.int q a) es n0 = some (some (n0 + j, e.val))
  | [], [], n0, _, _, r, h => by cases h; exact .inl ⟨rfl, rfl⟩
  | x :: l, [], n0, hl, _, r, h => by simp at hl
  | [], e :: es, n0, hl, _, r, h => by simp at hl
  | (y, v, n) :: l, e :: es, n0, hl, hv, r, h => by
    obtain ⟨e', he, ⟨_, h1⟩, h2, h3⟩ := hv 0 (y, v, n) rfl
    simp at he; subst he
    have h1 : e.key = y := h1
    unfold mfind at h
    have key : ∀ qb, keyEq P kt (.int q a) y = some qb → Instr.sameNow (.int q) (.int q a) e.key = some qb := by
      intro qb hq
      rcases keyEq_cases hq with ⟨k, a', b, hu', hx, hy, rfl⟩ | ⟨u, v, hu', hx, _⟩
      · cases hx
        rw [h1, hy]; simp [Instr.sameNow]
      · cases hx
    split at h
    · rename_i hq
      have hrun := key _ hq
      cases hs : Instr.sameBits 10000 y (.int q a)
      · rw [hs] at h; cases h
      · rw [hs] at h
        cases h
        exact .inr ⟨0, v, n, e, rfl, rfl, h2, h3, by rw [h1]; exact hs, by simp only [Instr.findNow, hrun]; rfl⟩
    · rename_i hq
      have hrun := key _ hq
      rcases findNow_sound hu l es (n0 + 1) (by simpa using hl) (fun i z hz => by have := hv (i + 1) z (by simpa using hz); simpa using this) r h with ⟨k1, k2⟩ | ⟨j, v', n', e2, k1, k2, k3, k4, k5, k6⟩
      · exact .inl ⟨k1, by simp only [Instr.findNow, hrun]; exact k2⟩
      · exact .inr ⟨j + 1, v', n', e2, by rw [k1]; congr 2; omega, by simpa using k2, k3, k4, k5, by simp only [Instr.findNow, hrun]; rw [k6]; congr 3; omega⟩
    · cases h
theorem findKey_sound {kt : TypeId} {k : Value} (w : World) (hk : mkey P kt k = true) {l : List Row} {es : Array MapEntry} (hl : l.length = es.size) (hv : RowsOk m l es) {r : Option (Nat × Value × Nat)} (h : mfind P kt k l 0 = some r) :
    (r = none ∧ (Instr.findKey kt k es.toList).run P w = .ok none w) ∨ ∃ j v n e, r = some (j, v, n) ∧ es[j]? = some e ∧ VR m v e.val ∧ e.born = n ∧ Instr.sameBits 10000 e.key k = true ∧ (Instr.findKey kt k es.toList).run P w = .ok (some (j, e.val)) w := by
  obtain ⟨_, q, hq⟩ := mkey_spec hk
  rcases keyEq_cases hq with ⟨k', a, b, hu, rfl, _, rfl⟩ | ⟨u, v, hu, rfl, _⟩
  · rcases findNow_sound (m := m) hu l es.toList 0 (by simpa using hl) (fun i x hx => by simpa using hv i x hx) _ h with ⟨k1, k2⟩ | ⟨j, v, n, e, k1, k2, k3, k4, k5, k6⟩
    · exact .inl ⟨k1, MapKept.run_findKey hu k2⟩
    · exact .inr ⟨j, v, n, e, by simpa using k1, by simpa using k2, k3, k4, k5, by have := MapKept.run_findKey (w := w) hu k6; simpa using this⟩
  · rw [run_findKey_eq w (by rw [hu]) _ _]
    rcases asking_sound (m := m) w l es.toList 0 (by simpa using hl) (fun i x hx => by simpa using hv i x hx) _ h with ⟨k1, k2⟩ | ⟨j, v, n, e, k1, k2, k3, k4, k5, k6⟩
    · exact .inl ⟨k1, k2⟩
    · exact .inr ⟨j, v, n, e, by simpa using k1, by simpa using k2, k3, k4, k5, by simpa using k6⟩
end
end Go.Ev
/- Maps, and walks over them: what the operations do. -/
namespace Go.Ev
open Go
set_option linter.unusedVariables false
set_option linter.unusedSimpArgs false
theorem rows_set {m : Map} {l : List Row} {es : Array MapEntry} (hl : l.length = es.size) (h : RowsOk m l es) {j : Nat} {e : MapEntry} (he : es[j]? = some e) {k v v' : Value} {n : Nat} (hk : closed k = true) (hv : VR m v v') (hn : e.born = n) (f : MapEntry → MapEntry) (hf : f e = ⟨k, v', e.born⟩) : RowsOk m (l.set j (k, v, n)) (es.modify j f) := by
  intro i x hx
  rw [Array.getElem?_modify]
  rw [List.getElem?_set] at hx
  split at hx
  · rename_i hij
    subst hij
    split at hx
    · cases hx
      exact ⟨f e, by simp [he], by rw [hf]; exact ⟨hk, rfl⟩, by rw [hf]; exact hv, by rw [hf]; exact hn⟩
    · cases hx
  · rename_i hij
    rw [if_neg hij]
    exact h i x hx
theorem rows_push {m : Map} {l : List Row} {es : Array MapEntry} (hl : l.length = es.size) (h : RowsOk m l es) {k v v' : Value} {c : Nat} (hk : closed k = true) (hv : VR m v v') : RowsOk m (l ++ [(k, v, c)]) (es.push ⟨k, v', c⟩) := by
  intro i x hx
  rw [List.getElem?_append] at hx
  split at hx
  · rename_i hlt
    obtain ⟨e, a1, a2⟩ := h i x hx
    exact ⟨e, by rw [Array.getElem?_push_lt (by omega)]; exact (Array.getElem?_eq_some_iff.1 a1).2 ▸ rfl, a2⟩
  · rename_i hge
    have hil : i = l.length := by
      have := (List.getElem?_eq_some_iff.1 hx).1
      simp at this; omega
    subst hil
    simp at hx; subst hx
    exact ⟨⟨k, v', c⟩, by rw [hl]; simp, ⟨hk, rfl⟩, hv, rfl⟩
theorem erase_toList (es : Array MapEntry) (j : Nat) : (es.eraseIdxIfInBounds j).toList = es.toList.eraseIdx j := by
  unfold Array.eraseIdxIfInBounds
  split
  · simp
  · rename_i hj
    rw [List.eraseIdx_of_length_le (by simp; omega)]
theorem rows_erase {m : Map} {l : List Row} {es : Array MapEntry} (h : RowsOk m l es) (j : Nat) : RowsOk m (l.eraseIdx j) (es.eraseIdxIfInBounds j) := by
  intro i x hx
  rw [← Array.getElem?_toList, erase_toList, List.getElem?_eraseIdx]
  rw [List.getElem?_eraseIdx] at hx
  split
  · rename_i hij
    rw [if_pos hij] at hx
    rw [Array.getElem?_toList]; exact h i x hx
  · rename_i hij
    rw [if_neg hij] at hx
    rw [Array.getElem?_toList]; exact h _ x hx
/-- Rows and entries, one behind the other. -/
def Par (m : Map) : List Row → List MapEntry → Prop
  | [], [] => True
  | x :: l, e :: es => ((closed x.1 = true ∧ e.key = x.1) ∧ VR m x.2.1 e.val ∧ e.born = x.2.2) ∧ Par m l es
  | _, _ => False
theorem Par.of {m : Map} : ∀ {l : List Row} {es : List MapEntry}, l.length = es.length → (∀ (i : Nat) (x : Row), l[i]? = some x → ∃ e : MapEntry, es[i]? = some e ∧ (closed x.1 = true ∧ e.key = x.1) ∧ VR m x.2.1 e.val ∧ e.born = x.2.2) → Par m l es
  | [], [], _, _ => True.intro
  | x :: l, [], h, _ => by simp at h
  | [], e :: es, h, _ => by simp at h
  | x :: l, e :: es, hl, h => by
    obtain ⟨e', he, h1⟩ := h 0 x rfl
    simp at he; subst he
    exact ⟨h1, Par.of (by simpa using hl) fun i z hz => by have := h (i + 1) z (by simpa using hz); simpa using this⟩
theorem Par.filter {m : Map} (p : Nat → Bool) : ∀ {l : List Row} {es : List MapEntry}, Par m l es → Par m (l.filter fun x => p x.2.2) (es.filter fun e => p e.born)
  | [], [], _ => True.intro
  | x :: l, [], h => h.elim
  | [], e :: es, h => h.elim
  | x :: l, e :: es, ⟨h1, h2⟩ => by
    rw [List.filter_cons, List.filter_cons, h1.2.2]
    cases p x.2.2
    · exact Par.filter p h2
    · exact ⟨h1, Par.filter p h2⟩
theorem Par.all {m : Map} (p : Nat → Bool) : ∀ {l : List Row} {es : List MapEntry}, Par m l es → (l.all fun x => p x.2.2) = true → ∀ e ∈ es, p e.born = true
  | [], [], _, _ => fun e he => by cases he
  | x :: l, [], h, _ => h.elim
  | [], e :: es, h, _ => h.elim
  | x :: l, e :: es, ⟨h1, h2⟩, h => fun e' he => by
    simp only [List.all_cons, Bool.and_eq_true] at h
    rcases List.mem_cons.1 he with rfl | he
    · rw [h1.2.2]; exact h.1
    · exact Par.all p h2 h.2 e' he
theorem Par.born {m : Map} (s : Nat) : ∀ {l : List Row} {es : List MapEntry} (n0 : Nat), Par m l es → ∀ j y, mborn s l n0 = some (j, y) → ∃ i e, j = n0 + i ∧ es[i]? = some e ∧ l[i]? = some y ∧ e.born = s ∧ (closed y.1 = true ∧ e.key = y.1) ∧ VR m y.2.1 e.val ∧ y.2.2 = s ∧ (∀ q : MapEntry → Bool, (∀ e, q e = (e.born == s)) → es.find? q = some e ∧ es.findIdx? q = some i)
  | [], [], n0, _, j, y, h => by cases h
  | x :: l, [], n0, h, _, _, _ => h.elim
  | [], e :: es, n0, h, _, _, _ => h.elim
  | x :: l, e :: es, n0, ⟨h1, h2⟩, j, y, h => by
    unfold mborn at h
    cases hb : Nat.beq x.2.2 s
    · rw [hb] at h
      obtain ⟨i, e', k1, k2, k3, k4, k5, k6, k7, k8⟩ := Par.born s (n0 + 1) h2 j y h
      have hne : (e.born == s) = false := by rw [h1.2.2]; exact beq_eq_false_iff_ne.2 fun q => by rw [q] at hb; simp at hb
      refine ⟨i + 1, e', by omega, by simpa using k2, by simpa using k3, k4, k5, k6, k7, fun q hq => ?_⟩
      have := k8 q hq
      rw [List.find?_cons, List.findIdx?_cons, hq e, hne]
      exact ⟨this.1, by simp [this.2]⟩
    · rw [hb] at h
      cases h
      have hs := Nat.eq_of_beq_eq_true hb
      have hne : (e.born == s) = true := by rw [h1.2.2, hs]; simp
      refine ⟨0, e, rfl, rfl, rfl, h1.2.2.trans hs, h1.1, h1.2.1, hs, fun q hq => ?_⟩
      rw [List.find?_cons, List.findIdx?_cons, hq e, hne]
      exact ⟨rfl, rfl⟩
theorem amap_enter {P : Program} {T : Tab} {tm : Tr Value} {o : Oper} {H H' : Heap} {f : FuncId} {a : Array Value} (h : amap P T tm o H = some (.enter f a, H')) : False := by
  have e1 : ∀ {u : Option Value}, val u H = some (.enter f a, H') → False := fun h => by unfold val at h; split at h <;> cases h
  have e2 : ∀ {u : Option (Value × Heap)}, val2 u = some (.enter f a, H') → False := fun h => by unfold val2 at h; split at h <;> cases h
  have e3 : ∀ {u : Option Heap}, skp u = some (.enter f a, H') → False := fun h => by unfold skp at h; split at h <;> cases h
  unfold amap at h
  split at h
  · cases h
  all_goals first | (cases h; done) | (split at h <;> first | exact e1 h | exact e2 h | exact e3 h | cases h)
theorem amap_act {P : Program} {T : Tab} {tm : Tr Value} {o : Oper} {H H' : Heap} {r : Res} (h : amap P T tm o H = some (r, H')) : cls T o.op = .act := by
  unfold amap at h
  split at h
  case h_9 => cases h
  all_goals (rename_i hop; rw [hop]; rfl)
section
variable {P : Program} {T : Tab} (hT : TabOk P T) {m : Map} {H : Heap} {w : World}
theorem kts_spec {t kt et : TypeId} (h : kts T t = some (kt, et)) : T.under t = some (.map kt et) := by
  unfold kts at h
  split at h
  · rename_i q; cases h; exact q
  · cases h
theorem mapPut_sound [Bs] (hr : Rep P m H w) {b c : Nat} {L : Loc} {o : Ob} {es : Array MapEntry} (hb : m b = some L) (hmp : L.mp = true) (ho : H.get b = some o) (hro : o.ro = false) (g1 : w.heap[L.c]? = some (.map es c)) (es' : Array MapEntry) (cl' : Nat) (l' : List Row) (hl : l'.length = es'.size) (hrow : RowsOk m l' es') :
    Rep P m (H.put b ⟨mlay cl' l', o.elem, false⟩) { w with heap := w.heap.setIfInBounds L.c (.map es' cl') } ∧ Fr m H w m (H.put b ⟨mlay cl' l', o.elem, false⟩) { w with heap := w.heap.setIfInBounds L.c (.map es' cl') } := by
  have hp := put_any (w' := { w with heap := w.heap.setIfInBounds L.c (.map es' cl') }) hr.toRep0 hb ho hro (mlay cl' l') (fun c hc => (MapKept.heap_set g1).2 c hc) rfl rfl rfl (by simp)
    (.inr ⟨hmp, rfl, .inl ⟨es', cl', l', (MapKept.heap_set g1).1, rfl, hl, hrow⟩⟩)
  exact ⟨hp.1.full hp.2 hr, hp.2⟩
theorem stays_run {k k' : Value} (h : Instr.sameBits 10000 k k' = true) : (Instr.keyThatStays k k').run P w = .ok k' w := by
  unfold Instr.keyThatStays
  rw [if_pos h]; rfl
include hT
theorem zero_run {t : TypeId} {z : Value} (h : T.zero t = some z) : (zeroValue t).run P w = .ok z w := by
  obtain ⟨i0, z1, z2, z3, z4⟩ := hT.zero t z h
  simp [Go.zeroValue, typeInfo, z1, z2]
theorem alookup_sound {t : TypeId} {ok : Bool} {u u' i i' r : Value} (h : alookup P T t ok u i H = some r) (hr : Rep0 P m H w) (hu : VR m u u') (hi : VR m i i') :
    ∃ r', (Instr.lookup t u' i' ok).run P w = .ok r' w ∧ VR m r r' := by
  unfold alookup at h
  split at h
  · rename_i kt et b o c l hk hm
    cases hmk : mkey P kt i
    · rw [hmk] at h; cases h
    · rw [hmk] at h
      simp only [cond_true] at h
      obtain ⟨hcl, q, hq⟩ := mkey_spec hmk
      obtain rfl := hi.closed_eq hcl
      obtain ⟨L, es, rfl, hb, hmp, ho, hro, g1, g2, g3⟩ := mapAt_sound hm hr hu
      split at h
      · rename_i j v n z hf hz
        rcases findKey_sound w hmk g2 g3 hf with ⟨k1, _⟩ | ⟨j', v', n', e, k1, k2, k3, k4, k5, k6⟩
        · cases k1
        · cases k1
          cases h
          refine ⟨if ok then .tuple #[e.val, .bool true] else e.val, ?_, ?_⟩
          · cases ok <;> simp [Instr.lookup, run_under hT (kts_spec hk), MapKept.run_getObj_map g1, checkKey_run hq, k6, Result.andThen]
          · cases ok
            · exact k3
            · exact VRs.tuple2 (.cons k3 (.cons (.same rfl) .nil))
      · rename_i z hf hz
        rcases findKey_sound w hmk g2 g3 hf with ⟨_, k2⟩ | ⟨j', v', n', e, k1, _⟩
        · cases hc : closed z
          · rw [hc] at h; cases h
          · rw [hc] at h
            cases h
            refine ⟨if ok then .tuple #[z, .bool false] else z, ?_, ?_⟩
            · cases ok <;> simp [Instr.lookup, run_under hT (kts_spec hk), MapKept.run_getObj_map g1, checkKey_run hq, k2, zero_run hT hz, Result.andThen]
            · cases ok
              · exact VR.of_closed hc
              · exact VRs.tuple2 (.cons (VR.of_closed hc) (.cons (.same rfl) .nil))
        · cases k1
      · cases h
  · cases h
theorem aupdate_sound [Bs] {t : TypeId} {u u' i i' z z' : Value} {H' : Heap} (h : aupdate P T t u i z H = some H') (hr : Rep P m H w) (hu : VR m u u') (hi : VR m i i') (hz : VR m z z') :
    ∃ w', (Instr.mapUpdate t u' i' z').run P w = .ok () w' ∧ Rep P m H' w' ∧ Fr m H w m H' w' := by
  unfold aupdate at h
  split at h
  · rename_i kt et b o c l hk hm
    cases hmk : o.ro || !mkey P kt i
    · rw [hmk] at h
      simp only [cond_false] at h
      simp only [Bool.or_eq_false_iff, Bool.not_eq_false'] at hmk
      obtain ⟨hcl, q, hq⟩ := mkey_spec hmk.2
      obtain rfl := hi.closed_eq hcl
      obtain ⟨L, es, rfl, hb, hmp, ho, hro, g1, g2, g3⟩ := mapAt_sound hm hr.toRep0 hu
      split at h
      · rename_i j v n hf
        cases h
        rcases findKey_sound w hmk.2 g2 g3 hf with ⟨k1, _⟩ | ⟨j', v', n', e, k1, k2, k3, k4, k5, k6⟩
        · cases k1
        · cases k1
          exact ⟨_, by simp [Instr.mapUpdate, run_under hT (kts_spec hk), MapKept.run_getObj_map g1, checkKey_run hq, k6, k2, stays_run k5, MapKept.run_setObj_map _ g1, Result.andThen],
            mapPut_sound hr hb hmp ho hro g1 _ c _ (by simp [g2]) (rows_set g2 g3 k2 hcl hz k4 (fun e => { e with key := i', val := z' }) rfl)⟩
      · rename_i hf
        cases h
        rcases findKey_sound w hmk.2 g2 g3 hf with ⟨_, k2⟩ | ⟨j', v', n', e, k1, _⟩
        · exact ⟨_, by simp [Instr.mapUpdate, run_under hT (kts_spec hk), MapKept.run_getObj_map g1, checkKey_run hq, k2, MapKept.run_setObj_map _ g1, Result.andThen],
            mapPut_sound hr hb hmp ho hro g1 _ (c + 1) _ (by simp [g2]) (rows_push g2 g3 hcl hz)⟩
        · cases k1
      · cases h
    · rw [hmk] at h; cases h
  · cases h
theorem aentry_sound [Bs] {t : TypeId} {u u' i i' r : Value} {H' : Heap} (h : aentry P T t u i H = some (r, H')) (hr : Rep P m H w) (hu : VR m u u') (hi : VR m i i') :
    ∃ r' w', (Instr.mapEntry t u' i').run P w = .ok r' w' ∧ VR m r r' ∧ Rep P m H' w' ∧ Fr m H w m H' w' := by
  unfold aentry at h
  split at h
  · rename_i kt et b o c l hk hm
    cases hmk : o.ro || !mkey P kt i
    · rw [hmk] at h
      simp only [cond_false] at h
      simp only [Bool.or_eq_false_iff, Bool.not_eq_false'] at hmk
      obtain ⟨hcl, q, hq⟩ := mkey_spec hmk.2
      obtain rfl := hi.closed_eq hcl
      obtain ⟨L, es, rfl, hb, hmp, ho, hro, g1, g2, g3⟩ := mapAt_sound hm hr.toRep0 hu
      split at h
      · rename_i j v n z hf hz
        cases h
        rcases findKey_sound w hmk.2 g2 g3 hf with ⟨k1, _⟩ | ⟨j', v', n', e, k1, k2, k3, k4, k5, k6⟩
        · cases k1
        · cases k1
          refine ⟨.tuple #[e.val, .int .i64 (e.born : Nat)], _, by simp [Instr.mapEntry, run_under hT (kts_spec hk), MapKept.run_getObj_map g1, checkKey_run hq, k6, k2, stays_run k5, MapKept.run_setObj_map _ g1, Result.andThen, goInt], ?_,
            mapPut_sound hr hb hmp ho hro g1 _ c _ (by simp [g2]) (rows_set g2 g3 k2 hcl k3 k4 (fun e => { e with key := i' }) rfl)⟩
          rw [k4]
          exact VRs.tuple2 (.cons k3 (.cons (.same rfl) .nil))
      · rename_i z hf hz
        cases hc : closed z
        · rw [hc] at h; cases h
        · rw [hc] at h
          cases h
          rcases findKey_sound w hmk.2 g2 g3 hf with ⟨_, k2⟩ | ⟨j', v', n', e, k1, _⟩
          · exact ⟨.tuple #[z, .int .i64 (c : Nat)], _, by simp [Instr.mapEntry, run_under hT (kts_spec hk), MapKept.run_getObj_map g1, checkKey_run hq, k2, zero_run hT hz, MapKept.run_setObj_map _ g1, Result.andThen, goInt],
              VRs.tuple2 (.cons (VR.of_closed hc) (.cons (.same rfl) .nil)), mapPut_sound hr hb hmp ho hro g1 _ (c + 1) _ (by simp [g2]) (rows_push g2 g3 hcl (VR.of_closed hc))⟩
          · cases k1
      · cases h
    · rw [hmk] at h; cases h
  · cases h
theorem adelete_sound [Bs] {t ty : TypeId} {u u' i i' : Value} {H' : Heap} {kt2 : TypeId} (h : adelete P T t u i H = some H') (hr : Rep P m H w) (hu : VR m u u') (hi : VR m i i') :
    ∃ w', (Builtin.delete_ #[t, kt2] ty #[u', i']).run P w = .ok (.tuple #[]) w' ∧ Rep P m H' w' ∧ Fr m H w m H' w' := by
  unfold adelete at h
  split at h
  · rename_i kt et b o c l hk hm
    cases hmk : o.ro || !mkey P kt i
    · rw [hmk] at h
      simp only [cond_false] at h
      simp only [Bool.or_eq_false_iff, Bool.not_eq_false'] at hmk
      obtain ⟨hcl, q, hq⟩ := mkey_spec hmk.2
      obtain rfl := hi.closed_eq hcl
      obtain ⟨L, es, rfl, hb, hmp, ho, hro, g1, g2, g3⟩ := mapAt_sound hm hr.toRep0 hu
      split at h
      · rename_i j v n hf
        cases h
        rcases findKey_sound w hmk.2 g2 g3 hf with ⟨k1, _⟩ | ⟨j', v', n', e, k1, k2, k3, k4, k5, k6⟩
        · cases k1
        · cases k1
          have hj := (Array.getElem?_eq_some_iff.1 k2).1
          have hlen : (l.eraseIdx j).length = (es.eraseIdxIfInBounds j).size := by
            rw [← Array.length_toList, erase_toList, List.length_eraseIdx, List.length_eraseIdx, g2, Array.length_toList]
          exact ⟨_, by simp [Builtin.delete_, run_under hT (kts_spec hk), MapKept.run_getObj_map g1, checkKey_run hq, k6, MapKept.run_setObj_map _ g1, Result.andThen],
            mapPut_sound hr hb hmp ho hro g1 _ c _ hlen (rows_erase g3 j)⟩
      · rename_i hf
        cases h
        rcases findKey_sound w hmk.2 g2 g3 hf with ⟨_, k2⟩ | ⟨j', v', n', e, k1, _⟩
        · exact ⟨_, by simp [Builtin.delete_, run_under hT (kts_spec hk), MapKept.run_getObj_map g1, checkKey_run hq, k2, MapKept.run_setObj_map _ g1, Result.andThen],
            mapPut_sound hr hb hmp ho hro g1 es c l g2 g3⟩
        · cases k1
      · cases h
    · rw [hmk] at h; cases h
  · cases h
omit hT
theorem aestore_sound [Bs] {t : TypeId} {u u' s s' z z' : Value} {H' : Heap} (h : aestore u s z H = some H') (hr : Rep P m H w) (hu : VR m u u') (hs : VR m s s') (hz : VR m z z') :
    ∃ w', (Instr.entryStore t u' s' z').run P w = .ok () w' ∧ Rep P m H' w' ∧ Fr m H w m H' w' := by
  unfold aestore at h
  split at h
  · rename_i b o c l k n hm
    cases hmk : o.ro
    · rw [hmk] at h
      simp only [cond_false] at h
      obtain ⟨L, es, rfl, hb, hmp, ho, hro, g1, g2, g3⟩ := mapAt_sound hm hr.toRep0 hu
      obtain rfl := hs.closed_eq rfl
      split at h
      · rename_i j y hf
        cases h
        obtain ⟨i, e, k1, k2, k3, k4, k5, k6, k7, k8⟩ := Par.born n 0 (Par.of (m := m) (l := l) (es := es.toList) (by simpa using g2) (fun i x hx => by simpa using g3 i x hx)) j y hf
        have hidx : es.findIdx? (fun e => (e.born : Int) == Int.ofNat n) = some i := by
          rw [show es = es.toList.toArray by simp, List.findIdx?_toArray]
          exact (k8 (fun e => (e.born : Int) == Int.ofNat n) fun e => by
            show ((e.born : Int) == (n : Int)) = _
            rw [Bool.eq_iff_iff]; simp only [beq_iff_eq]; omega).2
        have hij : j = i := by omega
        subst hij
        have hint : (asInt (.int k (Int.ofNat n))).run P w = .ok (Int.ofNat n) w := rfl
        refine ⟨_, by simp only [Instr.entryStore, Sem.run_bind, MapKept.run_getObj_map g1, hint, hidx, Result.andThen]; rw [MapKept.run_setObj_map _ g1], mapPut_sound hr hb hmp ho hro g1 _ c _ (by simp [g2]) ?_⟩
        exact rows_set g2 g3 (by simpa using k2) k5.1 hz (k4.trans k7.symm) (fun e => { e with val := z' }) (by rw [← k5.2])
      · cases h
    · rw [hmk] at h; cases h
  · cases h
theorem ainow_sound {u u' r : Value} (h : ainow u H = some r) (hr : Rep0 P m H w) (hu : VR m u u') :
    ∃ r', (Instr.entry u').run P w = .ok r' w ∧ VR m r r' := by
  unfold ainow at h
  split at h
  · rename_i i o b s q seen hi
    obtain ⟨L, M, rfl, h1, h2, h3, h4, h5, h6, h7⟩ := iterAt_sound hi hr hu
    split at h
    · rename_i b' o' c l s' hm hl
      cases hq : Nat.beq c q
      · rw [hq] at h; cases h
      · rw [hq] at h
        simp only [cond_true] at h
        have hq := Nat.eq_of_beq_eq_true hq
        subst hq
        split at h
        · rename_i j y hf
          cases h
          obtain ⟨e1, e2, e3⟩ := mapAt_spec hm
          cases e1
          obtain ⟨es, g0, g1, g2, g3⟩ := mapBlk_sound hr h5 h6 e2 e3
          obtain ⟨i2, e, k1, k2, k3, k4, k5, k6, k7, k8⟩ := Par.born s' 0 (Par.of (m := m) (l := l) (es := es.toList) (by simpa using g2) (fun i x hx => by simpa using g3 i x hx)) j y hf
          have k9 := (k8 (fun e => e.born == s') fun e => rfl).1
          have hfd : es.find? (fun e => e.born == s') = some e := by rw [← Array.find?_toList]; exact k9
          have hback : seen.toArray.back? = some s' := by rw [List.back?_toArray]; exact hl
          refine ⟨.tuple #[e.key, e.val], ?_, ?_⟩
          · simp only [Instr.entry, getObj, Sem.run_bind, Sem.run, h7, g1, Result.andThen, hback, bne_self_eq_false, Bool.false_eq_true, if_false, hfd]
            rfl
          · rw [k5.2]
            exact VRs.tuple2 (.cons (VR.of_closed k5.1) (.cons k6 .nil))
        · cases h
    · cases h
  · cases h
theorem arange_sound [Bs] (hT : TabOk P T) {t : TypeId} {u u' r : Value} {H' : Heap} (h : arange T t u H = some (r, H')) (hr : Rep P m H w) (hu : VR m u u') :
    ∃ r' w' m', (Instr.range t u').run P w = .ok r' w' ∧ VR m' r r' ∧ Rep P m' H' w' ∧ Fr m H w m' H' w' := by
  unfold arange at h
  split at h
  · rename_i kt b o c l hk hm
    cases h
    obtain ⟨L, es, rfl, hb, hmp, ho, hro, g1, g2, g3⟩ := mapAt_sound hm hr.toRep0 hu
    obtain ⟨kt, et⟩ := kt
    have hn : m H.n = none := by
      cases h : m H.n with
      | none => rfl
      | some L => exact absurd (hr.dom _ _ h) (by omega)
    have hp := push_any hr.toRep0 ⟨icells b c c [], t, false⟩ (.mapIter (some L.c) c #[] c) ⟨w.heap.size, 0, 0, 0, true⟩ rfl (.inr ⟨rfl, rfl, .inr ⟨b, L, c, c, [], Map.le_add hn _ _ hb, hmp, heap_alloc_new w _, rfl⟩⟩)
    exact ⟨.pointer (some ⟨w.heap.size, 0, none⟩), _, _, by simp [Instr.range, run_under hT (kts_spec hk), MapKept.run_getObj_map g1, newObj, Result.andThen]; rfl, .iter (Map.add_self _ _ _) rfl, hp.1.full hp.2 hr, hp.2⟩
  · cases h
theorem anext_sound [Bs] {u u' r : Value} {H' : Heap} {ty : TypeId} (h : anext u H = some (r, H')) (hr : Rep P m H w) (hu : VR m u u') :
    ∃ r' w', (Instr.next u' false ty).run P w = .ok r' w' ∧ VR m r r' ∧ Rep P m H' w' ∧ Fr m H w m H' w' := by
  unfold anext at h
  split at h
  · rename_i i io b since q seen hi
    obtain ⟨L, M, rfl, h1, h2, h3, h4, h5, h6, h7⟩ := iterAt_sound hi hr.toRep0 hu
    split at h
    · rename_i b' o' c l hm
      cases hb : (Nat.ble since q && l.all fun e => Nat.blt e.2.2 since)
      · rw [hb] at h; cases h
      · rw [hb] at h
        simp only [cond_true] at h
        simp only [Bool.and_eq_true, Nat.ble_eq] at hb
        obtain ⟨e1, e2, e3⟩ := mapAt_spec hm
        cases e1
        obtain ⟨es, g0, g1, g2, g3⟩ := mapBlk_sound hr.toRep0 h5 h6 e2 e3
        have hpar := Par.of (m := m) (l := l) (es := es.toList) (by simpa using g2) (fun i x hx => by simpa using g3 i x hx)
        have hold : ∀ x ∈ es.toList, x.born < since := fun x hx => by
          have := Par.all (fun n => Nat.blt n since) hpar hb.2 x hx
          exact Nat.le_of_ble_eq_true this
        have hfil := Par.filter (fun n => !seen.contains n) hpar
        have hleft : (leftOf es seen.toArray).toList = es.toList.filter fun e => !seen.contains e.born := by
          unfold leftOf; simp
        rw [← hleft] at hfil
        have run := run_next_at (P := P) w ty L.c M.c since q seen.toArray es c h7 g1 hold hb.1
        split at h
        · rename_i hf
          cases h
          rw [hf] at hfil
          have h0 : (leftOf es seen.toArray).toList = [] := by
            cases hq : (leftOf es seen.toArray).toList with
            | nil => rfl
            | cons a b => rw [hq] at hfil; exact hfil.elim
          rcases run with ⟨_, hrun⟩ | ⟨e, he, _⟩
          · exact ⟨_, w, hrun, VRs.tuple2 (.cons (.same rfl) .nil), hr, Fr.refl _ _ _⟩
          · rw [h0] at he; cases he
        · rename_i e hf
          cases h
          rw [hf] at hfil
          obtain ⟨e', h0, hp1, hp2, hp3⟩ : ∃ e', (leftOf es seen.toArray).toList = [e'] ∧ (closed e.1 = true ∧ e'.key = e.1) ∧ VR m e.2.1 e'.val ∧ e'.born = e.2.2 := by
            cases hq : (leftOf es seen.toArray).toList with
            | nil => rw [hq] at hfil; exact hfil.elim
            | cons a r =>
              rw [hq] at hfil
              cases r with
              | nil => exact ⟨a, rfl, hfil.1⟩
              | cons a2 r2 => exact hfil.2.elim
          rcases run with ⟨hz, _⟩ | ⟨e2', he, w1, hw1, hrun⟩
          · rw [← Array.length_toList, h0] at hz; cases hz
          · rw [h0] at he
            obtain rfl : e2' = e' := by simpa using he
            have hr1 : Rep P m H w1 := by rcases hw1 with rfl | rfl; exact hr; exact hr.drew _
            have h71 : w1.heap[L.c]? = some (.mapIter (some M.c) since seen.toArray q) := by rcases hw1 with rfl | rfl <;> exact h7
            have hlt : L.c < w1.heap.size := (Array.getElem?_eq_some_iff.1 h71).1
            have hp := put_any (w' := { w1 with heap := w1.heap.setIfInBounds L.c (.mapIter (some M.c) since (seen.toArray.push e2'.born) c) }) hr1.toRep0 h1 h3 h4 (icells b since c (seen ++ [e.2.2])) (fun c hc => by simp [Array.getElem?_setIfInBounds, Ne.symm hc]) rfl rfl rfl (by simp)
              (.inr ⟨h2, rfl, .inr ⟨b, M, since, c, seen ++ [e.2.2], h5, h6, by simp [Array.getElem?_setIfInBounds, hlt, hp3], rfl⟩⟩)
            refine ⟨_, _, hrun, ?_, hp.1.full hp.2 hr1, ?_⟩
            · rw [hp1.2]
              exact VRs.tuple2 (.cons (.same rfl) (.cons (VR.of_closed hp1.1) (.cons hp2 .nil)))
            · rcases hw1 with rfl | rfl
              · exact hp.2
              · exact Fr.drew _ hp.2
        · cases h
    · cases h
  · cases h
theorem aclear_sound [Bs] (hT : TabOk P T) {t ty e : TypeId} {A : Option Addr} {n c : Nat} {u' : Value} {H' : Heap} (h : aclear T t A n H = some H') (hu : T.under t = some (.slice e)) (hr : Rep P m H w) (hx : VR m (.slice A n c) u') :
    ∃ w', (Builtin.clear_ #[t] ty #[u']).run P w = .ok (.tuple #[]) w' ∧ Rep P m H' w' ∧ Fr m H w m H' w' := by
  unfold aclear at h
  split at h
  · cases h
    refine ⟨w, ?_, hr, Fr.refl _ _ _⟩
    cases hx with
    | same hp => cases A <;> simp [Builtin.clear_, run_under hT hu]
    | slice hm hmp hc => simp [Builtin.clear_, run_under hT hu]
  · rename_i n
    split at h
    · rename_i e' b off hu'
      rw [hu] at hu'; cases hu'
      split at h
      · rename_i z hz
        cases hcz : closed z
        · rw [hcz] at h; cases h
        · rw [hcz] at h
          simp only [cond_true] at h
          obtain ⟨i0, z1, z2, z3, z4⟩ := hT.zero _ z hz
          cases hx with
          | same hp => simp [plain] at hp
          | slice hm hmp hc =>
            rename_i q c' L
            obtain ⟨w', g1, g2, g3⟩ := aput_sound h hr hm hmp (zeros_VRs hcz z4 (n + 1))
            have hq : q = L.o + off := by
              rcases hc with ⟨_, _, h⟩ | ⟨_, _, _, h⟩
              · exact h
              · omega
            subst hq
            refine ⟨w', ?_, g2, g3⟩
            have hzc : 0 < z.cells.size ∨ z.cells.size = 0 := by omega
            have he : (Builtin.zeroCells z.cells (n + 1)).toList = zerosOf z.cells.toList (n + 1) := by
              rcases hzc with h0 | h0
              · exact madeCells_eq h0 (n + 1)
              · have hz0 : z.cells = #[] := Array.eq_empty_of_size_eq_zero h0
                rw [hz0]
                have e1 : zerosOf ([] : List Value) (n + 1) = [] := by
                  show (List.replicate (n + 1) ([] : List Value)).flatten = []
                  simp
                rw [e1]
                simp [Builtin.zeroCells]
            simp only [Builtin.clear_, Sem.run_bind, List.getElem?_toArray, List.getElem?_cons_zero, run_under hT hu, Result.andThen_ok, zero_run hT hz, he, g1, Sem.run_pure]
      · cases h
    · cases h
theorem mpush_sound [Bs] (hr : Rep P m H w) (t : TypeId) : Rep P (m.add H.n ⟨w.heap.size, 0, 0, 0, true⟩) (H.push ⟨mlay 0 [], t, false⟩) (w.alloc (.map #[] 0)) ∧ Fr m H w (m.add H.n ⟨w.heap.size, 0, 0, 0, true⟩) (H.push ⟨mlay 0 [], t, false⟩) (w.alloc (.map #[] 0)) := by
  have hp := push_any hr.toRep0 ⟨mlay 0 [], t, false⟩ (.map #[] 0) ⟨w.heap.size, 0, 0, 0, true⟩ rfl (.inr ⟨rfl, rfl, .inl ⟨#[], 0, [], heap_alloc_new w _, rfl, rfl, fun i x hx => by simp at hx⟩⟩)
  exact ⟨hp.1.full hp.2 hr, hp.2⟩
end
end Go.Ev
/- One operation of the evaluator is one of the model's. -/
namespace Go.Ev
open Go
set_option linter.unusedVariables false
set_option linter.unusedSimpArgs false
inductive ResR (m : Map) : Res → Next → Prop where
  | val {v v' : Value} (h : VR m v v') : ResR m (.val v) (.value v')
  | skip : ResR m .skip .skip
  | enter {f : FuncId} {as bs : Array Value} (h : VRs m as.toList bs.toList) : ResR m (.enter f as) (.enter f bs)
structure FnsOk (P : Program) (T : Tab) : Prop where
  fn : ∀ f fn, T.fn f = some fn → P.funcs[f]? = some fn ∧ fn.body.isSome = true ∧ (fn.name == "runtime.NumGoroutine") = false
  has : ∀ f, T.has f = true → ∃ fn, P.funcs[f]? = some fn ∧ fn.body.isSome = true ∧ (fn.name == "runtime.NumGoroutine") = false
theorem FnsOk.can {P : Program} {T : Tab} (h : FnsOk P T) {f : FuncId} {u : Unit} (hc : T.can f = some u) : ∃ fn, P.funcs[f]? = some fn ∧ fn.body.isSome = true ∧ (fn.name == "runtime.NumGoroutine") = false := by
  unfold Tab.can at hc
  split at hc
  · rename_i fn hf; exact ⟨fn, h.fn f fn hf⟩
  · cases hb : T.has f
    · rw [hb] at hc; cases hc
    · exact h.has f hb
section
variable {P : Program} {T : Tab} (hT : TabOk P T) (hF : FnsOk P T) {m : Map} {H H' : Heap} {w : World} {tm : Tr Value} {a : Act} {o : Oper} {r : Res}
/-- What an operation's run must be. -/
def Good [Bs] (P : Program) (m : Map) (H : Heap) (w : World) (a : Act) (o : Oper) (r : Res) (H' : Heap) : Prop :=
  ∃ r' w' m', (execOp a.eval o).run P w = .ok r' w' ∧ ResR m' r r' ∧ Rep P m' H' w' ∧ Fr m H w m' H' w'
theorem good_val [Bs] {v : Value} {u : Option Value} (hv : val u H = some (r, H')) (hr : Rep P m H w) (hrun : ∀ v, u = some v → ∃ v', (execOp a.eval o).run P w = .ok (.value v') w ∧ VR m v v') : Good P m H w a o r H' := by
  unfold val at hv
  split at hv
  · cases hv
    obtain ⟨v', h1, h2⟩ := hrun _ rfl
    exact ⟨_, w, m, h1, .val h2, hr, Fr.refl _ _ _⟩
  · cases hv
theorem orVal_cases {u v : Option Value} {x : Value} (h : orVal u v = some x) : u = some x ∨ v = some x := by
  unfold orVal at h
  split at h
  · exact .inl h
  · exact .inr h
include hT
theorem amap_sound [Bs] (h : amap P T tm o H = some (r, H')) (hr : Rep P m H w) (ht : OpRel m tm a o.op.operands.toList) : Good P m H w a o r H' := by
  unfold amap at h
  split at h
  · rename_i t hop
    cases h
    obtain ⟨h1, h2⟩ := mpush_sound hr t
    exact ⟨.value (.map (some w.heap.size)), _, _, by simp [execOp, hop, Instr.makeMap, newObj]; rfl, .val (.map (Map.add_self _ _ _) rfl), h1, h2⟩
  · rename_i t x i ok hop
    split at h
    · rename_i u v hu hv
      exact good_val (v := undef) h hr fun z hz => by
        obtain ⟨r', h1, h2⟩ := alookup_sound hT hz hr.toRep0 (ht _ (by simp [hop, Op.operands]) _ hu) (ht _ (by simp [hop, Op.operands]) _ hv)
        exact ⟨r', by simp [execOp, hop, h1], h2⟩
    · cases h
  · rename_i t x i y hop
    split at h
    · rename_i u v z hu hv hz
      unfold skp at h
      split at h
      · rename_i H2 hst
        cases h
        obtain ⟨w', h1, h2, h3⟩ := aupdate_sound hT hst hr (ht _ (by simp [hop, Op.operands]) _ hu) (ht _ (by simp [hop, Op.operands]) _ hv) (ht _ (by simp [hop, Op.operands]) _ hz)
        exact ⟨.skip, w', m, by simp [execOp, hop, h1], .skip, h2, h3⟩
      · cases h
    · cases h
  · rename_i t x i hop
    split at h
    · rename_i u v hu hv
      unfold val2 at h
      split at h
      · rename_i z H2 hst
        cases h
        obtain ⟨r', w', h1, h2, h3, h4⟩ := aentry_sound hT hst hr (ht _ (by simp [hop, Op.operands]) _ hu) (ht _ (by simp [hop, Op.operands]) _ hv)
        exact ⟨.value r', w', m, by simp [execOp, hop, h1], .val h2, h3, h4⟩
      · cases h
    · cases h
  · rename_i t x s y hop
    split at h
    · rename_i u v z hu hv hz
      unfold skp at h
      split at h
      · rename_i H2 hst
        cases h
        obtain ⟨w', h1, h2, h3⟩ := aestore_sound (t := t) hst hr (ht _ (by simp [hop, Op.operands]) _ hu) (ht _ (by simp [hop, Op.operands]) _ hv) (ht _ (by simp [hop, Op.operands]) _ hz)
        exact ⟨.skip, w', m, by simp [execOp, hop, h1], .skip, h2, h3⟩
      · cases h
    · cases h
  · rename_i t x hop
    split at h
    · rename_i u hu
      unfold val2 at h
      split at h
      · rename_i z H2 hst
        cases h
        obtain ⟨r', w', m', h1, h2, h3, h4⟩ := arange_sound hT hst hr (ht _ (by simp [hop, Op.operands]) _ hu)
        exact ⟨.value r', w', m', by simp [execOp, hop, h1], .val h2, h3, h4⟩
      · cases h
    · cases h
  · rename_i x hop
    split at h
    · rename_i u hu
      unfold val2 at h
      split at h
      · rename_i z H2 hst
        cases h
        obtain ⟨r', w', h1, h2, h3, h4⟩ := anext_sound (ty := o.type) hst hr (ht _ (by simp [hop, Op.operands]) _ hu)
        exact ⟨.value r', w', m, by simp [execOp, hop, h1], .val h2, h3, h4⟩
      · cases h
    · cases h
  · rename_i x hop
    split at h
    · rename_i u hu
      exact good_val (v := undef) h hr fun z hz => by
        obtain ⟨r', h1, h2⟩ := ainow_sound hz hr.toRep0 (ht _ (by simp [hop, Op.operands]) _ hu)
        exact ⟨r', by simp [execOp, hop, h1], h2⟩
    · cases h
  · cases h
include hF
theorem acall_sound [Bs] {c : Call} (hop : o.op = .call c) (h : acall P T tm o c H = some (r, H')) (hr : Rep P m H w) (ht : OpRel m tm a o.op.operands.toList) : Good P m H w a o r H' := by
  unfold acall at h
  split at h
  · rename_i f hc
    split at h
    · rename_i g first cap l hf hl
      split at h
      · rename_i hfn
        cases h
        obtain ⟨fn, h1, h2, h3⟩ := hF.can hfn
        have hvf := ht f (by simp [hop, Op.operands, Call.operands, hc]) _ hf
        have hvl := aevals_sound (fun x hx => ht x (by simp [hop, Op.operands, Call.operands, hc] at hx ⊢; exact .inr hx)) hl
        generalize hfv : a.eval f = fv at hvf
        cases hvf with
        | same hp => simp [plain] at hp
        | func hs hx hs2 hx2 =>
          rename_i gs ds
          refine ⟨.enter g (gs ++ c.args.map a.eval ++ ds), w, m, ?_, .enter ?_, hr, Fr.refl _ _ _⟩
          · have hb : fn.body.isNone = false := by cases hq : fn.body <;> simp_all
            have h3' : ¬ fn.name = "runtime.NumGoroutine" := by simpa using h3
            simp [execOp, hop, resolve, hc, hfv, Deferred.ofValue, invoke, callFunc, h1, h3', hb]
            intro hnn; rw [hnn] at hb; cases hb
          · simp only [Array.toList_append, Array.toList_map]
            exact ((VRs.of_arr hs hx).append (by simpa using hvl)).append (VRs.of_arr hs2 hx2)
      · cases h
    · cases h
  · cases h
  · rename_i b hc
    split at h
    · rename_i st xt s x hat hl
      have hvl := aevals_sound (fun x hx => ht x (by simp [hop, Op.operands, Call.operands, hc] at hx ⊢; exact hx)) hl
      obtain ⟨callee, args, argTypes⟩ := c
      simp only at hc hat hl hvl
      subst hc
      obtain ⟨args⟩ := args
      obtain ⟨argTypes⟩ := argTypes
      simp only at hat hl hvl
      subst hat
      have hargs : ∃ p q, args = [p, q] := by
        have := hvl.1
        simp at this
        match args, this with
        | [p, q], _ => exact ⟨p, q, rfl⟩
      obtain ⟨p, q, rfl⟩ := hargs
      have e0 := hvl.2 0 s rfl
      have e1 := hvl.2 1 x rfl
      simp at e0 e1
      unfold val2 at h
      split at h
      · rename_i v H2 happ
        cases h
        have key := aappend_sound hT happ hr e0 e1 o.type
        obtain ⟨v', w', m', k1, k2, k3, k4⟩ := key
        refine ⟨.value v', w', m', ?_, .val k2, k3, k4⟩
        simp [execOp, hop, resolve, invoke, builtin, k1]
      · cases h
    · rename_i dt xt d x hat hl
      have hvl := aevals_sound (fun x hx => ht x (by simp [hop, Op.operands, Call.operands, hc] at hx ⊢; exact hx)) hl
      obtain ⟨callee, args, argTypes⟩ := c
      simp only at hc hat hl hvl
      subst hc
      obtain ⟨args⟩ := args
      obtain ⟨argTypes⟩ := argTypes
      simp only at hat hl hvl
      subst hat
      have hargs : ∃ p q, args = [p, q] := by
        have := hvl.1
        simp at this
        match args, this with
        | [p, q], _ => exact ⟨p, q, rfl⟩
      obtain ⟨p, q, rfl⟩ := hargs
      have e0 := hvl.2 0 d rfl
      have e1 := hvl.2 1 x rfl
      simp at e0 e1
      unfold val2 at h
      split at h
      · rename_i v H2 hcp
        cases h
        obtain ⟨w', k1, k2, k3, k4⟩ := acopy_sound (xt := xt) hT hcp hr e0 e1 o.type
        refine ⟨.value v, w', m, ?_, .val (.same k2), k3, k4⟩
        simp [execOp, hop, resolve, invoke, builtin, k1]
      · cases h
    · rename_i t s n c' hat hl
      have hvl := aevals_sound (fun x hx => ht x (by simp [hop, Op.operands, Call.operands, hc] at hx ⊢; exact hx)) hl
      split at h
      · rename_i e hu
        cases h
        obtain ⟨callee, args, argTypes⟩ := c
        simp only at hc hat hl hvl
        subst hc
        obtain ⟨args⟩ := args
        obtain ⟨argTypes⟩ := argTypes
        simp only at hat hl hvl
        subst hat
        have hargs : ∃ p, args = [p] := by
          have := hvl.1
          simp at this
          match args, this with
          | [p], _ => exact ⟨p, rfl⟩
        obtain ⟨p, rfl⟩ := hargs
        have e0 := hvl.2 0 _ rfl
        simp at e0
        have : ∃ s' c'', a.eval p = .slice s' n c'' := by
          generalize a.eval p = pv at e0
          cases e0 with
          | same => exact ⟨_, _, rfl⟩
          | slice => exact ⟨_, _, rfl⟩
        obtain ⟨s', c'', hp⟩ := this
        refine ⟨.value (.int .i64 n), w, m, ?_, .val (.same rfl), hr, Fr.refl _ _ _⟩
        simp [execOp, hop, resolve, invoke, builtin, hp, Builtin.len_, run_under hT hu, goInt]
      · cases h
    · rename_i t b hat hl
      have hvl := aevals_sound (fun x hx => ht x (by simp [hop, Op.operands, Call.operands, hc] at hx ⊢; exact hx)) hl
      split at h
      · rename_i kt b' o' c' l hk hm
        cases h
        obtain ⟨callee, args, argTypes⟩ := c
        simp only at hc hat hl hvl
        subst hc
        obtain ⟨args⟩ := args
        obtain ⟨argTypes⟩ := argTypes
        simp only at hat hl hvl
        subst hat
        have hargs : ∃ p, args = [p] := by
          have := hvl.1
          simp at this
          match args, this with
          | [p], _ => exact ⟨p, rfl⟩
        obtain ⟨p, rfl⟩ := hargs
        have e0 := hvl.2 0 _ rfl
        simp at e0
        obtain ⟨L, es, hp, _, _, _, _, g1, g2, _⟩ := mapAt_sound hm hr.toRep0 e0
        obtain ⟨kt, et⟩ := kt
        refine ⟨.value (.int .i64 l.length), w, m, ?_, .val (.same rfl), hr, Fr.refl _ _ _⟩
        simp [execOp, hop, resolve, invoke, builtin, hp, Builtin.len_, run_under hT (kts_spec hk), MapKept.run_getObj_map g1, g2, goInt]
      · cases h
    · rename_i mt kt2 x k hat hl
      have hvl := aevals_sound (fun x hx => ht x (by simp [hop, Op.operands, Call.operands, hc] at hx ⊢; exact hx)) hl
      split at h
      · rename_i H2 hd
        cases h
        obtain ⟨callee, args, argTypes⟩ := c
        simp only at hc hat hl hvl
        subst hc
        obtain ⟨args⟩ := args
        obtain ⟨argTypes⟩ := argTypes
        simp only at hat hl hvl
        subst hat
        have hargs : ∃ p q, args = [p, q] := by
          have := hvl.1
          simp at this
          match args, this with
          | [p, q], _ => exact ⟨p, q, rfl⟩
        obtain ⟨p, q, rfl⟩ := hargs
        have e0 := hvl.2 0 _ rfl
        have e1 := hvl.2 1 _ rfl
        simp at e0 e1
        obtain ⟨w', k1, k2, k3⟩ := adelete_sound (ty := o.type) (kt2 := kt2) hT hd hr e0 e1
        refine ⟨.value (.tuple #[]), w', m, ?_, .val (VR.of_closed rfl), k2, k3⟩
        simp [execOp, hop, resolve, invoke, builtin, k1]
      · cases h
    · rename_i t s n c' hat hl
      have hvl := aevals_sound (fun x hx => ht x (by simp [hop, Op.operands, Call.operands, hc] at hx ⊢; exact hx)) hl
      split at h
      · rename_i e H2 hu hd
        cases h
        obtain ⟨callee, args, argTypes⟩ := c
        simp only at hc hat hl hvl
        subst hc
        obtain ⟨args⟩ := args
        obtain ⟨argTypes⟩ := argTypes
        simp only at hat hl hvl
        subst hat
        have hargs : ∃ p, args = [p] := by
          have := hvl.1
          simp at this
          match args, this with
          | [p], _ => exact ⟨p, rfl⟩
        obtain ⟨p, rfl⟩ := hargs
        have e0 := hvl.2 0 _ rfl
        simp at e0
        obtain ⟨w', k1, k2, k3⟩ := aclear_sound (ty := o.type) hT hd hu hr e0
        refine ⟨.value (.tuple #[]), w', m, ?_, .val (VR.of_closed rfl), k2, k3⟩
        simp [execOp, hop, resolve, invoke, builtin, k1]
      · cases h
    · cases h
    · cases h
    · rename_i k x k' y hl
      have hvl := aevals_sound (fun x hx => ht x (by simp [hop, Op.operands, Call.operands, hc] at hx ⊢; exact hx)) hl
      cases h
      obtain ⟨callee, args, argTypes⟩ := c
      simp only at hc hl hvl
      subst hc
      obtain ⟨args⟩ := args
      simp only at hl hvl
      have hargs : ∃ p q, args = [p, q] := by
        have := hvl.1
        simp at this
        match args, this with
        | [p, q], _ => exact ⟨p, q, rfl⟩
      obtain ⟨p, q, rfl⟩ := hargs
      have e0 := hvl.2 0 _ rfl
      have e1 := hvl.2 1 _ rfl
      simp at e0 e1
      have e0 := e0.plain_eq rfl
      have e1 := e1.plain_eq rfl
      refine ⟨_, w, m, ?_, .val (.same rfl), hr, Fr.refl _ _ _⟩
      simp [execOp, hop, resolve, invoke, builtin, e0, e1, Builtin.max_, Builtin.max2]
    · rename_i k x k' y hl
      have hvl := aevals_sound (fun x hx => ht x (by simp [hop, Op.operands, Call.operands, hc] at hx ⊢; exact hx)) hl
      cases h
      obtain ⟨callee, args, argTypes⟩ := c
      simp only at hc hl hvl
      subst hc
      obtain ⟨args⟩ := args
      simp only at hl hvl
      have hargs : ∃ p q, args = [p, q] := by
        have := hvl.1
        simp at this
        match args, this with
        | [p, q], _ => exact ⟨p, q, rfl⟩
      obtain ⟨p, q, rfl⟩ := hargs
      have e0 := hvl.2 0 _ rfl
      have e1 := hvl.2 1 _ rfl
      simp at e0 e1
      have e0 := e0.plain_eq rfl
      have e1 := e1.plain_eq rfl
      refine ⟨_, w, m, ?_, .val (.same rfl), hr, Fr.refl _ _ _⟩
      simp [execOp, hop, resolve, invoke, builtin, e0, e1, Builtin.min_, Builtin.min2]
    · cases h
    · cases h
    · refine good_val (v := undef) h hr fun v hv => ?_
      obtain ⟨h1, h2⟩ := fallback_sound (P := P) (w := w) ht (by rw [hop]; simp) hv
      exact ⟨v, h1, VR.of_closed h2⟩
theorem aop_sound [Bs] (hi : ∀ e x, o.op = .box e x → ∃ i, P.info? e = some i) (h : aop P T tm o H = some (r, H')) (hr : Rep P m H w) (ht : OpRel m tm a o.op.operands.toList) : Good P m H w a o r H' := by
  unfold aop at h
  split at h
  · rename_i x hop
    exact good_val (v := undef) h hr fun v hv => ⟨a.eval x, by simp [execOp, hop], ht _ (by simp [hop, Op.operands]) _ hv⟩
  · rename_i x hop
    exact good_val (v := undef) h hr fun v hv => ⟨a.eval x, by simp [execOp, hop], ht _ (by simp [hop, Op.operands]) _ hv⟩
  · rename_i c x y hop
    split at h
    · rename_i t u v h1 h2 h3
      cases h
      have e1 := (ht _ (by simp [hop, Op.operands]) _ h1).plain_eq rfl
      refine ⟨.value (if t then a.eval x else a.eval y), w, m, by cases t <;> simp [execOp, hop, e1, asBool], ?_, hr, Fr.refl _ _ _⟩
      cases t
      · exact .val (ht _ (by simp [hop, Op.operands]) _ h3)
      · exact .val (ht _ (by simp [hop, Op.operands]) _ h2)
    · cases h
  · rename_i e hop
    split at h
    · rename_i z hz
      cases hc : closed z
      · rw [hc] at h; cases h
      rw [hc] at h
      cases h
      obtain ⟨v', w', m', h1, h2, h3, h4⟩ := (alloc_mk hT m H.n w hz hc).sound hr
      exact ⟨.value v', w', m', by simp [execOp, hop, h1], .val h2, h3, h4⟩
    · cases h
  · rename_i e x hop
    split at h
    · rename_i v hv
      cases h
      obtain ⟨i, hi⟩ := hi e x hop
      obtain ⟨v', w', m', h1, h2, h3, h4⟩ := Mk.sound (box_mk H.n w hi (ht _ (by simp [hop, Op.operands]) _ hv)) hr
      exact ⟨.value v', w', m', by simp [execOp, hop, h1], .val h2, h3, h4⟩
    · cases h
  · rename_i t ps hop
    split at h
    · rename_i l hl
      refine good_val (v := undef) h hr fun v hv => ?_
      have hp := aevalp_sound (fun x hx => ht x (by simpa [hop, Op.operands] using hx)) hl
      obtain ⟨v', h1, h2⟩ := abuild_sound (w := w) hT hv hp
      refine ⟨v', ?_, h2⟩
      have : (ps.map fun x => (x.1, a.eval x.2)) = (ps.toList.map fun p => (p.1, a.eval p.2)).toArray := by apply Array.ext'; simp
      simp only [execOp, hop, this]
      simp [h1]
    · cases h
  · rename_i t n ps hop
    split at h
    · rename_i l hl
      have hp := aevalp_sound (fun x hx => ht x (by simpa [hop, Op.operands] using hx)) hl
      unfold val2 at h
      split at h
      · rename_i v H2 hb
        cases h
        obtain ⟨ob, rfl, hmk⟩ := abuildSlice_mk hT w hb hp
        obtain ⟨v', w', m', h1, h2, h3, h4⟩ := hmk.sound hr
        refine ⟨.value v', w', m', ?_, .val h2, h3, h4⟩
        have : (ps.map fun x => (x.1, a.eval x.2)) = (ps.toList.map fun p => (p.1, a.eval p.2)).toArray := by apply Array.ext'; simp
        simp only [execOp, hop, this]
        simp [h1]
      · cases h
    · cases h
  · rename_i t x hop
    split at h
    · rename_i u hu
      refine good_val (v := undef) h hr fun v hv => ?_
      obtain ⟨v', h1, h2⟩ := aload_sound hT hv hr (ht _ (by simp [hop, Op.operands]) _ hu)
      exact ⟨v', by simp [execOp, hop, h1], h2⟩
    · cases h
  · rename_i t x y hop
    split at h
    · rename_i v u hv hu
      unfold skp at h
      split at h
      · rename_i H2 hst
        cases h
        obtain ⟨w', h1, h2, h3⟩ := astore_sound hT hst hr (ht _ (by simp [hop, Op.operands]) _ hv) (ht _ (by simp [hop, Op.operands]) _ hu)
        exact ⟨.skip, w', m, by simp [execOp, hop, h1], .skip, h2, h3⟩
      · cases h
    · cases h
  · rename_i x hop
    split at h
    · rename_i p hp
      cases h
      have hv := ht _ (by simp [hop, Op.operands]) _ hp
      refine ⟨.value (a.eval x), w, m, ?_, .val hv, hr, Fr.refl _ _ _⟩
      generalize hax : a.eval x = ax at hv
      cases hv with
      | same hpp => simp [plain] at hpp
      | ptr hb => simp [execOp, hop, hax]
    · rename_i f g c hp
      cases h
      have hv := ht _ (by simp [hop, Op.operands]) _ hp
      refine ⟨.value (a.eval x), w, m, ?_, .val hv, hr, Fr.refl _ _ _⟩
      generalize hax : a.eval x = ax at hv
      cases hv with
      | same hpp => simp [plain] at hpp
      | func => simp [execOp, hop, hax]
    · cases h
  · rename_i op t x y yt hop
    split at h
    · rename_i u v hu hv
      refine good_val (v := undef) h hr fun z hz => ?_
      rcases orVal_cases hz with hz | hz
      · obtain ⟨h1, h2⟩ := abin_sound (w := w) hT hz (ht _ (by simp [hop, Op.operands]) _ hu) (ht _ (by simp [hop, Op.operands]) _ hv) x y
        refine ⟨z, ?_, .same h2⟩
        simp only [execOp, hop]
        simp only [Sem.run_bind] at h1 ⊢
        rw [h1]
        simp
      · obtain ⟨h1, h2⟩ := fallback_sound (P := P) (w := w) ht (by rw [hop]; simp) hz
        exact ⟨z, h1, VR.of_closed h2⟩
    · cases h
  · rename_i t x hop
    split at h
    · rename_i b hb
      cases h
      have e1 := (ht _ (by simp [hop, Op.operands]) _ hb).plain_eq rfl
      exact ⟨.value (.bool !b), w, m, by simp [execOp, hop, e1, Op.unary], .val (.same rfl), hr, Fr.refl _ _ _⟩
    · cases h
  · rename_i sr ds x hop
    split at h
    · rename_i v hv
      refine good_val (v := undef) h hr fun z hz => ?_
      rcases orVal_cases hz with hz | hz
      · obtain ⟨h1, h2⟩ := aconvert_sound hT hz hr (ht _ (by simp [hop, Op.operands]) _ hv)
        exact ⟨z, by simp [execOp, hop, h1], .same h2⟩
      · obtain ⟨h1, h2⟩ := fallback_sound (P := P) (w := w) ht (by rw [hop]; simp) hz
        exact ⟨z, h1, VR.of_closed h2⟩
    · cases h
  · rename_i fn fs cs hop
    split at h
    · rename_i l k hl hk
      cases h
      have h1 := aevals_sound (fun x hx => ht x (by simp [hop, Op.operands] at hx ⊢; exact .inl hx)) hl
      have h2 := aevals_sound (fun x hx => ht x (by simp [hop, Op.operands] at hx ⊢; exact .inr hx)) hk
      have g1 : VRs m l.toArray.toList (fs.map a.eval).toList := by simpa using h1
      have g2 : VRs m k.toArray.toList (cs.map a.eval).toList := by simpa using h2
      exact ⟨.value (.func fn (fs.map a.eval) (cs.map a.eval)), w, m, by simp [execOp, hop, Instr.makeFunc], .val (.func g1.arr.1 g1.arr.2 g2.arr.1 g2.arr.2), hr, Fr.refl _ _ _⟩
    · cases h
  · rename_i t x hop
    split at h
    · cases h
    · rename_i v d hnot hv hd
      cases h
      refine ⟨.value (.iface t (a.eval x)), w, m, ?_, .val (.iface (ht _ (by simp [hop, Op.operands]) _ hv)), hr, Fr.refl _ _ _⟩
      have : (Instr.makeInterface t (a.eval x)).run P w = .ok (.iface t (a.eval x)) w := by
        unfold Instr.makeInterface
        rw [Sem.run_bind, run_under hT hd]
        cases d <;> first | rfl | exact absurd rfl (hnot _)
      simp [execOp, hop, this]
    · cases h
  · rename_i t l c hop
    split at h
    · rename_i u v hu hv
      unfold val2 at h
      split at h
      · rename_i x H2 hb
        cases h
        obtain ⟨ob, rfl, hmk⟩ := amakeSlice_mk hT w hb (ht _ (by simp [hop, Op.operands]) _ hu) (ht _ (by simp [hop, Op.operands]) _ hv)
        obtain ⟨v', w', m', h1, h2, h3, h4⟩ := hmk.sound hr
        exact ⟨.value v', w', m', by simp [execOp, hop, h1], .val h2, h3, h4⟩
      · cases h
    · cases h
  · rename_i t x lo hi mx hop
    split at h
    · rename_i v l hh mm hv hl hh' hm
      refine good_val (v := undef) h hr fun z hz => ?_
      rcases orVal_cases hz with hz | hz
      · obtain ⟨v', h1, h2⟩ := aslice_sound (w := w) hT hz (ht _ (by simp [hop, Op.operands]) _ hv) (aevalo_sound (fun x hx => ht x (by simp [hop, Op.operands] at hx ⊢; simp [hx])) hl).1 (aevalo_sound (fun x hx => ht x (by simp [hop, Op.operands] at hx ⊢; simp [hx])) hl).2 (aevalo_sound (fun x hx => ht x (by simp [hop, Op.operands] at hx ⊢; simp [hx])) hh').1 (aevalo_sound (fun x hx => ht x (by simp [hop, Op.operands] at hx ⊢; simp [hx])) hh').2 (aevalo_sound (fun x hx => ht x (by simp [hop, Op.operands] at hx ⊢; simp [hx])) hm).2
        exact ⟨v', by simp [execOp, hop, h1], h2⟩
      · obtain ⟨h1, h2⟩ := fallback_sound (P := P) (w := w) ht (by rw [hop]; simp) hz
        exact ⟨z, h1, VR.of_closed h2⟩
    · cases h
  · rename_i s x f hop
    split at h
    · rename_i v hv
      refine good_val (v := undef) h hr fun z hz => ?_
      obtain ⟨v', h1, h2⟩ := afield_sound (w := w) hT hz (ht _ (by simp [hop, Op.operands]) _ hv)
      exact ⟨v', by simp [execOp, hop, h1], h2⟩
    · cases h
  · rename_i t x f hop
    split at h
    · rename_i cs fields hx hd
      split at h
      · rename_i fd hf
        refine good_val (v := undef) h hr fun z hz => ?_
        have hv := ht _ (by simp [hop, Op.operands]) _ hx
        generalize hax : a.eval x = ax at hv
        cases hv with
        | same hpp => simp [plain] at hpp
        | agg hs hk =>
          rename_i ys
          obtain ⟨v', h1, h2⟩ := apart_sound (w := w) hT hz (VRs.of_arr hs hk)
          exact ⟨v', by simp [execOp, hop, hax, Instr.field, run_under hT hd, hf, asAgg, h1], h2⟩
      · cases h
    · cases h
  · rename_i t x ix hop
    split at h
    · rename_i u v hu hv
      refine good_val (v := undef) h hr fun z hz => ?_
      obtain ⟨v', h1, h2⟩ := aindexAddr_sound (w := w) hT hz (ht _ (by simp [hop, Op.operands]) _ hu) (ht _ (by simp [hop, Op.operands]) _ hv)
      exact ⟨v', by simp [execOp, hop, h1], h2⟩
    · cases h
  · rename_i t x ix hop
    split at h
    · rename_i u v hu hv
      refine good_val (v := undef) h hr fun z hz => ?_
      rcases orVal_cases hz with hz | hz
      · obtain ⟨v', h1, h2⟩ := aindex_sound (w := w) hT hz (ht _ (by simp [hop, Op.operands]) _ hu) (ht _ (by simp [hop, Op.operands]) _ hv)
        exact ⟨v', by simp [execOp, hop, h1], h2⟩
      · obtain ⟨h1, h2⟩ := fallback_sound (P := P) (w := w) ht (by rw [hop]; simp) hz
        exact ⟨z, h1, VR.of_closed h2⟩
    · cases h
  · rename_i x i hop
    split at h
    · rename_i vs hx
      refine good_val (v := undef) h hr fun z hz => ?_
      have hv := ht _ (by simp [hop, Op.operands]) _ hx
      generalize hax : a.eval x = ax at hv
      cases hv with
      | same hpp => simp [plain] at hpp
      | tuple hs hk =>
        rename_i ys
        obtain ⟨y, hy, hvy⟩ := (VRs.of_arr hs hk).2 i z (by simpa using hz)
        simp only [Array.getElem?_toList] at hy
        exact ⟨y, by simp [execOp, hop, hax, Instr.extract, hy], hvy⟩
    · cases h
  · rename_i c hop
    exact acall_sound hT hF hop h hr ht
  · rename_i u t x hnn hop
    refine good_val (v := undef) h hr fun z hz => ?_
    obtain ⟨h1, h2⟩ := fallback_sound (P := P) (w := w) ht (by rw [hop]; simp) hz
    exact ⟨z, h1, VR.of_closed h2⟩
  · exact amap_sound hT h hr ht
end
end Go.Ev
